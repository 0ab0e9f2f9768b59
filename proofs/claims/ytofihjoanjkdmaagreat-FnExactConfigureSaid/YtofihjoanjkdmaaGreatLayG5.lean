/- Placements and connections in the program: valid ones (printed by mkplc.py). -/
import Derived.Maps.OwnOps
import Derived.Maps.OwnSet
import Derived.Test.YtofihjoanjkdmaaGreatLayF7
import Derived.Test.YtofihjoanjkdmaaGreatRtS
namespace Go.Proofs.YtofihjoanjkdmaaGreat
set_option maxHeartbeats 8000000
set_option maxRecDepth 100000
open Go.RowKit
def lh (d:Dev) (t:Int):Int:=if bB d t=true then bL d t else -1
theorem xD (d:Dev) (t:Int):0<=bL d t/\bL d t<=2:=by
 unfold bL
 split
 ·omega
 split <;> omega
theorem vO (k:Int):-1<=gG k/\gG k<=2:=by
 unfold gG
 split
 ·omega
 split
 ·omega
 split <;> omega
theorem zo {d:Dev} {t k:Int} (h:0<=k):lh d t=k↔bB d t=true/\bL d t=k:=by
 unfold lh
 split
 ·rename_i h1;exact ⟨fun h2=>⟨h1,h2⟩,fun h2=>h2.2⟩
 rename_i h1;exact ⟨fun h2=>by omega,fun h2=>absurd h2.1 h1⟩
theorem wJ (k:Int) (w:World) :
  Calls Tryz.prog 127 #[.int .i64 k] w fun e w'=>e = .returned (.int .i64 (gG k))/\w=w':=by
 by_cases h0:k=0
 ·subst h0
  go_enter Tryz.func127,Tryz.ntmps127
  go_wp2_with fail
  go_ret
  exact ⟨rfl,rfl⟩
 by_cases h1:k=1
 ·subst h1
  go_enter Tryz.func127,Tryz.ntmps127
  go_wp2_with fail
  go_ret
  exact ⟨rfl,rfl⟩
 by_cases h2:k=2
 ·subst h2
  go_enter Tryz.func127,Tryz.ntmps127
  go_wp2_with fail
  go_ret
  exact ⟨rfl,rfl⟩
 by_cases h3:k=3
 ·subst h3
  go_enter Tryz.func127,Tryz.ntmps127
  go_wp2_with fail
  go_ret
  exact ⟨rfl,rfl⟩
 have g:Hid (gG k=-1):=by show _=_;unfold gG;rw [if_neg (by omega),if_neg h2,if_neg h3]
 have z:(k==0)=false:=by simp [h0]
 have u:(k==1)=false:=by simp [h1]
 have j:(k==2)=false:=by simp [h2]
 have q:(k==3)=false:=by simp [h3]
 clear h0 h1 h2 h3
 go_enter Tryz.func127,Tryz.ntmps127
 go_wp2_with fail
 go_ret
 exact ⟨aL g.out.symm,rfl⟩
theorem qX (bs:List Blk) (BA:Option Addr) (bn bc:Nat) (w:World) (I:RdC w w.heap.size (aa bs) (.slice BA bn bc)) (hn:bn<=1048576) :
  Calls Tryz.prog 49 #[.slice BA bn bc] w fun e w'=>∃A c,e = .returned (.slice A bn c)/\Own w.heap.size w' A bn c (bs.map Blk.kind)/\Below w.heap.size w w':=by
 have B:=I.blkN
 obtain ⟨z,HB⟩:=hd2 B I
 clear I B
 go_enter Tryz.func49,Tryz.ntmps49
 go_wp2_with fail
 go_loopw [3,8] (fun v i wr=>∃(k:Nat) (A:Option Addr) (c:Nat),k<=bn/\i = .int .i64 (k:Int)/\v = .slice A k c/\aJ w wr [.cel (aH ((bs.take k).map Blk.kind)) (.slice A k c)]) (fun _ i _=>bn - (intOf i).toNat)
 ·exact ⟨0,none,0,by omega,rfl,rfl,(aJ.refl w).pushNil 3 1⟩
 obtain ⟨k,A1,R,hk,rfl,rfl,hs⟩:=hrel
 have G:=Hd hs
 clear hs
 by_cases Y:k<bn
 ·have H:=dT (by omega:k<bn)
  have u:k<bs.length:=by rw [z.out];exact Y
  obtain ⟨Z,J,Q,K,V,rfl,j,c0,c1,c2,r2⟩:=HB.out.blk (k:=k) u
  have g:=G.out.bel
  have ah:=aK g j
  rw [←g.cell (p:=⟨Z,J+k * 3,none⟩) j] at c0
  rw [←g.cell (p:=⟨Z,J+k * 3+1,none⟩) j] at c1
  rw [←g.cell (p:=⟨Z,J+k * 3+2,none⟩) j] at c2
  have q:=Hd (show (bs.take (k+1)).map Blk.kind=(bs.take k).map Blk.kind++[(bs[k]?.getD Blk.zero).kind] from by rw [mr u,List.map_append];rfl)
  clear u g r2
  generalize bs[k]?.getD Blk.zero=b at *
  obtain ⟨kd,it,es⟩:=b
  simp only at c0 c1 q
  obtain ⟨i0,i1⟩:=ib (by omega:k<bn)
  have HA:=Hd (G.out.alloc (.cells #[.int .i64 kd,.int .i64 it,.slice Q K V] 89))
  obtain ⟨y0,ly⟩:=wO (aI wr (.cells #[.int .i64 kd,.int .i64 it,.slice Q K V] 89))
  go_upto_region 5 with fail
  generalize wr.alloc (.cells #[.int .i64 kd,.int .i64 it,.slice Q K V] 89)=W5 at *
  go_wp2_with (at_builtin;refine gF rfl _ _ rfl _ (HA.out.alloc _) 0 A1 k R ((bs.take k).map Blk.kind) kd _ (0,0) rfl rfl rfl (aI _ _) (by omega) ?_;intro g9 aj w9 S9 U;have W:=Hd S9;clear S9 U)
  go_roundw
  ·exact ⟨k+1,_,_,by omega,by go_num,rfl,by rw [q.out];exact W.out⟩
  simp [intOf];omega
 have D:k=bn:=by omega
 have H:=dF (by omega:bn<=k)
 have q:Hid (bs.take k=bs):=by show _=_;rw [D];exact List.take_of_length_le (by rw [z.out];exact Nat.le_refl _)
 rw [q.out] at G
 subst D
 go_wp2_with fail
 go_ret
 exact ⟨_,_,rfl,G.out.owned 0 rfl,G.out.bel⟩
theorem wK (d:Dev) (t:Int) (w:World) :
  Calls Tryz.prog 128 #[.agg (dv d),.int .i64 t] w fun e w'=>e = .returned (.int .i64 (lh d t))/\Below w.heap.size w w':=by
 have q:=Hd (aB (Below.refl w.heap.size w) (.cells (dv d) 36))
 have u:=Hd (aI w (.cells (dv d) 36))
 obtain ⟨H,D,B,z,G⟩:=cO (u.out)
 cases ht:bB d t with
 | false =>
  have I:Hid (lh d t=-1):=by show _=_;unfold lh;rw [ht];rfl
  have Q:=Hd ht
  clear ht
  go_enter Tryz.func128,Tryz.ntmps128
  go_upto_region 1 with fail
  generalize w.alloc (.cells (dv d) 36)=Y at *
  go_wp2_with fail
  refine (rR d t _).mono ?_
  rw [Q.out]
  rintro _ W ⟨rfl,j⟩
  have g:=Hd (aA q.out j)
  clear j H D B z G
  go_wp2_with fail
  go_ret
  exact ⟨aL I.out.symm,g.out⟩
 | true =>
  have I:Hid (lh d t=bL d t):=by show _=_;unfold lh;rw [if_pos ht]
  have Q:=Hd ht
  obtain ⟨J,h0,h1⟩:=aU.1 ht
  have h2:=fJ J
  have V:=Hd J
  have h3:t<=1099511627776:=by omega
  clear ht J h1 h2
  go_enter Tryz.func128,Tryz.ntmps128
  go_upto_region 1 with fail
  generalize w.alloc (.cells (dv d) 36)=Y at *
  go_wp2_with fail
  refine (rR d t _).mono ?_
  rw [Q.out]
  rintro _ W ⟨rfl,j⟩
  have g:=Hd (aA q.out j)
  have U:=aD j u.out
  clear j H D B z G
  obtain ⟨H,D,B,z,G⟩:=cO U
  clear U
  go_wp2_with fail
  refine (mV d t _ V.out h0 h3).mono ?_
  rintro _ Z ⟨rfl,R⟩
  have K:=Hd (aA g.out R)
  clear R H D B z G
  go_wp2_with fail
  go_ret
  exact ⟨aL I.out.symm,K.out⟩
theorem qY (d:Dev) (kinds place:List Int) (KA PA:Option Addr) (kn kc pn pc:Nat) (w:World) (hk:dP w KA kn kinds) (hp:dP w PA pn place) (bg:pn<=pc) (bh:pc<=1048576) :
  Calls Tryz.prog 48 #[.agg (dv d),.slice KA kn kc,.slice PA pn pc] w fun e w'=>e = .returned (.bool (tb (eG d kinds place)))/\Below w.heap.size w w':=by
 have ad:=Hd (aB (Below.refl w.heap.size w) (.cells (dv d) 36))
 have Q:=Hd (aI w (.cells (dv d) 36))
 obtain ⟨HK,HP⟩:=hd2 hk hp
 clear hk hp
 cases H:dR d with
 | false =>
  have I:Hid (¬eG d kinds place):=fun h=>by rw [h.dev] at H;cases H
  have HD:=Hd H
  clear H
  go_enter Tryz.func48,Tryz.ntmps48
  go_upto_region 1 with fail
  generalize w.alloc (.cells (dv d) 36)=W0 at *
  obtain ⟨Z,W,V,U,Y⟩:=cO (Q.out)
  go_wp2_with fail
  refine (fu d _).mono ?_
  rw [HD.out]
  rintro _ w1 ⟨rfl,J⟩
  have u:=Hd (aA ad.out J)
  clear J Z W V U Y
  go_wp2_with fail
  go_ret
  exact ⟨aO I.out,u.out⟩
 | true =>
  have ae:=Hd H
  clear H
  by_cases az:kn<=64
  ·have aP:decide ((64:Int)<(kn:Int))=false:=decide_eq_false (by omega)
   by_cases ai:pn=kn
   ·subst ai
    have dn:((pn:Int) != (pn:Int))=false:=by simp
    go_enter Tryz.func48,Tryz.ntmps48
    go_upto_region 1 with fail
    generalize w.alloc (.cells (dv d) 36)=W0 at *
    obtain ⟨Z,W,V,U,Y⟩:=cO (Q.out)
    go_wp2_with fail
    refine (fu d _).mono ?_
    rw [ae.out]
    rintro _ w1 ⟨rfl,J⟩
    have u:=Hd (aA ad.out J)
    have aY:=Hd (aD J Q.out)
    clear J Z W V U Y
    go_wp2_with fail
    go_loopw [27] (fun i wr=>∃k:Nat,k<=pn/\i = .int .i64 (k:Int)/\Below w1.heap.size w1 wr/\(∀j,j<k→bB d (place[j]?.getD 0)=true/\bL d (place[j]?.getD 0)=gG (kinds[j]?.getD 0))/\(place.take k).Nodup) (fun i _=>pn - (intOf i).toNat)
    ·exact ⟨0,by omega,rfl,Below.refl _ _,fun j hj=>by omega,by simp⟩
    obtain ⟨k,hk,rfl,hb,ag⟩:=hrel
    obtain ⟨HB,g⟩:=hd2 hb ag
    have q:=Hd (aA u.out hb)
    clear hb ag
    by_cases af:k<pn
    ·have aM:=dT (by omega:k<pn)
     obtain ⟨bp,op,aE,ar,ax⟩:=HP.out.2 (by omega)
     obtain ⟨bk,ok,ay,aF,aH⟩:=HK.out.2 (by omega)
     obtain ⟨aS,aU⟩:=hd2 aE ay
     have cp:=(q.out.cell (p:=⟨bp,op+k,none⟩) ar).trans (ax k af)
     have ck:=(q.out.cell (p:=⟨bk,ok+k,none⟩) aF).trans (aH k af)
     have bb:=aK q.out ar
     have a7:=aK q.out aF
     have aT:=Hd (HP.out.take (k:=k) (by omega))
     have av:k<place.length:=by rw [HP.out.1];exact af
     have aw:=Hd (bU (z:=0) av)
     have aG:¬(bB d (place[k]?.getD 0)=true/\bL d (place[k]?.getD 0)=gG (kinds[k]?.getD 0))→¬eG d kinds place:=fun h h'=>h (h'.tile k (by rw [HK.out.1];exact af))
     have B:=Hd aG
     have aC:place[k]?.getD 0∈place.take k→¬eG d kinds place:=fun h h'=>by
      have h1:=h'.once
      rw [←List.take_append_drop (k+1) place,aw.out] at h1
      exact (dZ.1 (List.nodup_append.1 h1).1).2 h
     have K:=Hd aC
     have hG:bB d (place[k]?.getD 0)=true/\bL d (place[k]?.getD 0)=gG (kinds[k]?.getD 0)→place[k]?.getD 0∉place.take k→(∀j,j<k+1→bB d (place[j]?.getD 0)=true/\bL d (place[j]?.getD 0)=gG (kinds[j]?.getD 0))/\(place.take (k+1)).Nodup:=fun h1 h2=>⟨bW g.out.1 h1,by rw [aw.out,dZ];exact ⟨g.out.2,h2⟩⟩
     have HG:=Hd hG
     clear ax aH av aG aC hG aE ay
     obtain rfl:=aS.out
     obtain rfl:=aU.out
     generalize place[k]?.getD 0=t at *
     generalize kinds[k]?.getD 0=kd at *
     have aJ:=vO kd
     obtain ⟨bt,R⟩:∃b,gG kd=b:=⟨_,rfl⟩
     rw [R] at aJ B HG
     have aW:=Hd R
     clear R
     obtain ⟨i0,i1⟩:=ib (by omega:k<pn)
     have i2:(k:Int)<=(pc:Int):=by omega
     obtain ⟨Z,W,V,U,Y⟩:=cO (aD HB.out aY.out)
     go_wp2_with fail
     refine (wJ kd _).mono ?_
     rw [aW.out]
     rintro _ w2 ⟨rfl,rfl⟩
     by_cases h0:bt<0
     ·have I:Hid (¬eG d kinds place):=B.out fun h=>by have:=xD d t;omega
      have d0:decide (bt<0)=true:=decide_eq_true h0
      clear HG B K
      go_wp2_with fail
      go_ret
      exact ⟨aO I.out,q.out⟩
     have d0:decide (bt<0)=false:=decide_eq_false h0
     go_wp2_with fail
     refine (wK d t _).mono ?_
     by_cases G:lh d t=bt
     ·have aQ:=Hd ((zo (by omega)).1 G)
      rw [G]
      have dk:(bt != bt)=false:=by simp
      clear G
      rintro _ w3 ⟨rfl,b3⟩
      have aV:=Hd (aA HB.out b3)
      have D:=Hd (aA q.out b3)
      clear b3 Z W V U Y cp ck
      go_wp2_with fail
      refine (nK _ k pc _ t _ (aT.out.below D.out) (by omega)).mono ?_
      rintro _ w4 ⟨rfl,rfl⟩
      by_cases hm:t∈place.take k
      ·have I:Hid (¬eG d kinds place):=K.out hm
       rw [decide_eq_true hm]
       clear HG B K hm
       go_wp2_with fail
       go_ret
       exact ⟨aO I.out,D.out⟩
      have aR:=Hd (HG.out aQ.out hm)
      rw [decide_eq_false hm]
      clear HG B K hm
      go_wp2_with fail
      go_roundw
      ·exact ⟨k+1,by omega,by go_num,aV.out,aR.out⟩
      simp [intOf];omega
     have I:Hid (¬eG d kinds place):=B.out fun h=>G ((zo (by omega)).2 h)
     have dk:(lh d t != bt)=true:=by simp [G]
     clear HG B K G
     rintro _ w3 ⟨rfl,b3⟩
     have D:=Hd (aA q.out b3)
     clear b3 Z W V U Y cp ck
     go_wp2_with fail
     go_ret
     exact ⟨aO I.out,D.out⟩
    have al:k=pn:=by omega
    have aM:=dF (by omega:pn<=k)
    have I:Hid (eG d kinds place):=⟨ae.out,by rw [HK.out.1];exact az,by rw [HP.out.1,HK.out.1],fun j hj=>g.out.1 j (by rw [al,←HK.out.1];exact hj),by
     have h:=g.out.2
     rwa [al,List.take_of_length_le (by rw [HP.out.1];exact Nat.le_refl _)] at h⟩
    clear g al
    go_wp2_with fail
    go_ret
    exact ⟨dU I.out,q.out⟩
   have I:Hid (¬eG d kinds place):=fun h=>ai (by rw [←HP.out.1,←HK.out.1];exact h.same)
   have dn:((pn:Int) != (kn:Int))=true:=by simp;omega
   clear ai
   go_enter Tryz.func48,Tryz.ntmps48
   go_upto_region 1 with fail
   generalize w.alloc (.cells (dv d) 36)=W0 at *
   obtain ⟨Z,W,V,U,Y⟩:=cO (Q.out)
   go_wp2_with fail
   refine (fu d _).mono ?_
   rw [ae.out]
   rintro _ w1 ⟨rfl,J⟩
   have u:=Hd (aA ad.out J)
   clear J Z W V U Y
   go_wp2_with fail
   go_ret
   exact ⟨aO I.out,u.out⟩
  have I:Hid (¬eG d kinds place):=fun h=>az (by rw [←HK.out.1];exact h.len)
  have aP:decide ((64:Int)<(kn:Int))=true:=decide_eq_true (by omega)
  go_enter Tryz.func48,Tryz.ntmps48
  go_upto_region 1 with fail
  generalize w.alloc (.cells (dv d) 36)=W0 at *
  obtain ⟨Z,W,V,U,Y⟩:=cO (Q.out)
  go_wp2_with fail
  refine (fu d _).mono ?_
  rw [ae.out]
  rintro _ w1 ⟨rfl,J⟩
  have u:=Hd (aA ad.out J)
  clear J Z W V U Y
  go_wp2_with fail
  go_ret
  exact ⟨aO I.out,u.out⟩
theorem xE (n a b:Int) (w:World) (hn:0<=n/\n<=64) :
  Calls Tryz.prog 218 #[.int .i64 n,.agg #[.int .i64 a,.int .i64 b]] w fun e w'=>e = .returned (.bool (tb (gJ n ⟨a,b⟩)))/\Below w.heap.size w w':=by
 have g:=Hd (aB (Below.refl w.heap.size w) (.cells #[.int .i64 a,.int .i64 b] 100))
 have u:Hid (gJ n ⟨a,b⟩↔(0<=a/\a<n)/\0<=b/\b<=4):=Iff.rfl
 cases hr:inR a 0 (n - 1) with
 | false =>
  have j:Hid (¬gJ n ⟨a,b⟩):=fun h=>by
   have h2:=(u.out.1 h).1
   rw [aR.2 (by omega)] at hr
   cases hr
  have q:=Hd hr
  clear hr
  go_enter Tryz.func218,Tryz.ntmps218
  go_wp2_with fail
  refine (aM a 0 (n - 1) _).mono ?_
  rw [q.out]
  rintro _ w' ⟨rfl,rfl⟩
  go_wp2_with fail
  go_ret
  exact ⟨aO j.out,g.out⟩
 | true =>
  have z:=aR.1 hr
  have q:=Hd hr
  have j:Hid (inR b 0 4=tb (gJ n ⟨a,b⟩)):=EH (by rw [aR,u.out];omega)
  clear hr z
  go_enter Tryz.func218,Tryz.ntmps218
  go_wp2_with fail
  refine (aM a 0 (n - 1) _).mono ?_
  rw [q.out]
  rintro _ w' ⟨rfl,rfl⟩
  go_wp2_with fail
  refine (aM b 0 4 _).mono ?_
  rintro _ w' ⟨rfl,rfl⟩
  go_wp2_with fail
  go_ret
  exact ⟨dC j.out,g.out⟩
theorem qZ (n:Int) (cs:List Cn) (CA:Option Addr) (cn cc:Nat) (w:World) (hC:RdC w w.heap.size (ah cs) (.slice CA cn cc)) (ay:∀c∈cs,c.sinks.length<=1048576) :
  Calls Tryz.prog 130 #[.int .i64 n,.slice CA cn cc] w fun e w'=>e = .returned (.bool (tb (jJ n cs)))/\Below w.heap.size w w':=by
 have V:=hC.cnN
 obtain ⟨ad,HC,aT⟩:=hd3 V hC ay
 clear hC ay
 cases hr:inR n 0 64 with
 | false =>
  have R:Hid (¬jJ n cs):=fun h=>by rw [aR.2 h.blocks] at hr;cases hr
  have H1:=Hd hr
  clear hr
  go_enter Tryz.func130,Tryz.ntmps130
  go_wp2_with fail
  refine (aM n 0 64 _).mono ?_
  rw [H1.out]
  rintro _ w' ⟨rfl,rfl⟩
  go_wp2_with fail
  go_ret
  exact ⟨aO R.out,Below.refl _ _⟩
 | true =>
  have hn:=aR.1 hr
  have H1:=Hd hr
  clear hr
  by_cases Z:cn<=100
  ·have aE:decide ((100:Int)<(cn:Int))=false:=decide_eq_false (by omega)
   clear V
   go_enter Tryz.func130,Tryz.ntmps130
   go_wp2_with fail
   refine (aM n 0 64 _).mono ?_
   rw [H1.out]
   rintro _ w' ⟨rfl,rfl⟩
   go_wp2_with fail
   go_loopw [19] (fun i wr=>∃k:Nat,k<=cn/\i = .int .i64 (k:Int)/\Below w.heap.size w wr/\∀j,j<k→oz n (cs[j]?.getD Cn.zero)) (fun i _=>cn - (intOf i).toNat)
   ·exact ⟨0,by omega,rfl,Below.refl _ _,fun j hj=>by omega⟩
   obtain ⟨k,hk,rfl,hb,g⟩:=hrel
   obtain ⟨z,I⟩:=hd2 hb g
   clear hb g
   by_cases a5:k<cn
   ·have aW:=dT (by omega:k<cn)
    have G:k<cs.length:=by rw [ad.out];exact a5
    obtain ⟨bc,oc,SA,m,mc,av,J,c0,c1,c2,c3,rs⟩:=HC.out.cn (k:=k) G
    have a3:=Hd av
    have ai:=aK z.out J
    rw [←z.out.cell (p:=⟨bc,oc+k * 4,none⟩) J] at c0
    rw [←z.out.cell (p:=⟨bc,oc+k * 4+1,none⟩) J] at c1
    rw [←z.out.cell (p:=⟨bc,oc+k * 4+2,none⟩) J] at c2
    rw [←z.out.cell (p:=⟨bc,oc+k * 4+3,none⟩) J] at c3
    have hg:oz n (cs[k]?.getD Cn.zero)→∀j,j<k+1→oz n (cs[j]?.getD Cn.zero):=fun h=>bW I.out h
    have aC:jJ n cs→oz n (cs[k]?.getD Cn.zero):=fun h=>by rw [List.getElem?_eq_getElem G];exact h.fit _ (List.getElem_mem G)
    have B:=aT.out _ (List.getElem_mem G)
    rw [show cs[k]=cs[k]?.getD Cn.zero by rw [List.getElem?_eq_getElem G];rfl] at B
    obtain ⟨Y,U⟩:=hd2 hg aC
    clear G hg aC av
    obtain rfl:=a3.out
    generalize cs[k]?.getD Cn.zero=c at *
    obtain ⟨N,⟨a,b⟩,ss⟩:=c
    simp only at c0 c1 c2 c3 B
    have ao:=Hd (show RdC w w.heap.size (bR ss) (.slice SA m mc) from rs)
    have D:Hid (ss.length=m):=ao.out.pinN
    have hm:m<=1048576:=by rw [←D.out];exact B
    obtain ⟨i0,i1⟩:=ib (by omega:k<cn)
    have hy:=aI wr (.cells #[.int .i64 N,.int .i64 a,.int .i64 b,.slice SA m mc] 158)
    have aX:=Hd hy
    obtain ⟨y0,y1,y2,y3,ly⟩:=cO hy
    have Q:=Hd (aB z.out (.cells #[.int .i64 N,.int .i64 a,.int .i64 b,.slice SA m mc] 158))
    clear hy rs B
    go_upto_region 6 with fail
    generalize wr.alloc (.cells #[.int .i64 N,.int .i64 a,.int .i64 b,.slice SA m mc] 158)=W6 at *
    cases u:inR (m:Int) 1 120 with
    | false =>
     have R:Hid (¬jJ n cs):=fun h=>by
      have h2:=(U.out h).len
      change 1<=ss.length/\ss.length<=120 at h2
      rw [D.out] at h2
      rw [aR.2 (by omega)] at u
      cases u
     have H2:=Hd u
     clear u Y U
     go_wp2_with fail
     refine (aM (m:Int) 1 120 _).mono ?_
     rw [H2.out]
     rintro _ w' ⟨rfl,rfl⟩
     clear y0 y1 y2 y3 ly c0 c1 c2 c3 ai
     go_wp2_with fail
     go_ret
     exact ⟨aO R.out,Q.out⟩
    | true =>
     have be:=aR.1 u
     have H2:=Hd u
     clear u
     go_wp2_with fail
     refine (aM (m:Int) 1 120 _).mono ?_
     rw [H2.out]
     rintro _ w' ⟨rfl,rfl⟩
     go_wp2_with fail
     refine (xE n a b _ hn).mono ?_
     by_cases hf:gJ n ⟨a,b⟩
     ·rw [ae hf]
      have a4:Hid ((∀p∈ss,gJ n p)→∀j,j<k+1→oz n (cs[j]?.getD Cn.zero)):=fun h=>Y.out ⟨⟨by show 1<=ss.length;rw [D.out];omega,by show ss.length<=120;rw [D.out];omega⟩,hf,h⟩
      rintro _ w4 ⟨rfl,H⟩
      have al:=Hd (aA Q.out H)
      have hy:=aD H aX.out
      clear H y0 y1 y2 y3 ly c0 c1 c2 c3 ai Y hf
      obtain ⟨-,-,-,y3,ly⟩:=cO hy
      clear hy
      go_wp2_with fail
      clear y3 ly
      go_loopw [38] (fun i wr=>∃j:Nat,j<=m/\i = .int .i64 (j:Int)/\Below w.heap.size w wr/\∀q,q<j→gJ n (ss[q]?.getD bS.zero)) (fun i _=>m - (intOf i).toNat)
      ·exact ⟨0,by omega,rfl,al.out,fun q hq=>by omega⟩
      obtain ⟨j,hj,rfl,hb,g⟩:=hrel
      obtain ⟨K,aj⟩:=hd2 hb g
      clear hb g
      by_cases aF:j<m
      ·have a0:=dT (by omega:j<m)
       have W:j<ss.length:=by rw [D.out];exact aF
       obtain ⟨bp,op,az,af,d0,d1⟩:=ao.out.pin (k:=j) W
       have a1:=Hd az
       have ar:=aK K.out af
       rw [←K.out.cell (p:=⟨bp,op+j * 2,none⟩) af] at d0
       rw [←K.out.cell (p:=⟨bp,op+j * 2+1,none⟩) af] at d1
       have Y:Hid (gJ n (ss[j]?.getD bS.zero)→∀q,q<j+1→gJ n (ss[q]?.getD bS.zero)):=fun h=>bW aj.out h
       have HN:Hid (¬gJ n (ss[j]?.getD bS.zero)→¬jJ n cs):=fun h h'=>h (by
        rw [List.getElem?_eq_getElem W]
        exact (U.out h').sinks _ (List.getElem_mem W))
       clear W az
       obtain rfl:=a1.out
       generalize ss[j]?.getD bS.zero=s at *
       obtain ⟨x,y⟩:=s
       simp only at d0 d1
       obtain ⟨i2,i3⟩:=ib (by omega:j<m)
       have hq:=aI wr (.cells #[.int .i64 x,.int .i64 y] 100)
       obtain ⟨q0,q1,lq⟩:=jv hq
       have aH:=Hd (aB K.out (.cells #[.int .i64 x,.int .i64 y] 100))
       clear hq
       go_wp2_with fail
       refine (xE n x y _ hn).mono ?_
       by_cases hf:gJ n ⟨x,y⟩
       ·rw [ae hf]
        have ag:=Hd (Y.out hf)
        rintro _ w4 ⟨rfl,H⟩
        have ak:=Hd (aA aH.out H)
        clear H q0 q1 lq d0 d1 Y HN hf ar
        go_wp2_with fail
        go_roundw
        ·exact ⟨j+1,by omega,by go_num,ak.out,ag.out⟩
        simp [intOf];omega
       rw [bJ hf]
       have R:=Hd (HN.out hf)
       rintro _ w4 ⟨rfl,H⟩
       have ak:=Hd (aA aH.out H)
       clear H q0 q1 lq d0 d1 Y HN hf ar
       go_wp2_with fail
       go_ret
       exact ⟨aO R.out,ak.out⟩
      have ap:j=m:=by omega
      have a0:=dF (by omega:m<=j)
      have ag:=Hd (a4.out (fun p hp=>by
       obtain ⟨q,hq,rfl⟩:=List.getElem_of_mem hp
       have h:=aj.out q (by rw [ap,←D.out];exact hq)
       rwa [List.getElem?_eq_getElem hq] at h))
      clear aj ap
      go_wp2_with fail
      go_roundw
      ·exact ⟨k+1,by omega,by go_num,K.out,ag.out⟩
      simp [intOf];omega
     rw [bJ hf]
     have R:Hid (¬jJ n cs):=fun h=>hf (U.out h).src
     rintro _ w4 ⟨rfl,H⟩
     have al:=Hd (aA Q.out H)
     clear H y0 y1 y2 y3 ly c0 c1 c2 c3 ai Y hf
     go_wp2_with fail
     go_ret
     exact ⟨aO R.out,al.out⟩
   have aG:k=cn:=by omega
   have aW:=dF (by omega:cn<=k)
   have R:Hid (jJ n cs):=⟨hn,by rw [ad.out];exact Z,fun c hc=>by
    obtain ⟨j,hj,rfl⟩:=List.getElem_of_mem hc
    have h:=I.out j (by rw [aG,←ad.out];exact hj)
    rwa [List.getElem?_eq_getElem hj] at h⟩
   clear I aG
   go_wp2_with fail
   go_ret
   exact ⟨dU R.out,z.out⟩
  have R:Hid (¬jJ n cs):=fun h=>Z (by rw [←V];exact h.len)
  have aE:decide ((100:Int)<(cn:Int))=true:=decide_eq_true (by omega)
  clear V
  go_enter Tryz.func130,Tryz.ntmps130
  go_wp2_with fail
  refine (aM n 0 64 _).mono ?_
  rw [H1.out]
  rintro _ w' ⟨rfl,rfl⟩
  go_wp2_with fail
  go_ret
  exact ⟨aO R.out,Below.refl _ _⟩
theorem l5 (xs bs:List Cn) (CA DA:Option Addr) (cn cc dn dc:Nat) (w:World) (hC:RdC w w.heap.size (ah xs) (.slice CA cn cc)) (D:RdC w w.heap.size (ah bs) (.slice DA dn dc)) (hn:cn<=1048576) (B:∀c∈xs,c.sinks.length<=1048576) :
  Calls Tryz.prog 46 #[.slice CA cn cc,.slice DA dn dc] w fun e w'=>e = .returned (.bool (tb (xs=bs)))/\Below w.heap.size w w':=by
 have aj:=hC.cnN
 have ao:=D.cnN
 obtain ⟨ar,a1,HC,a7,a8⟩:=hd5 aj ao hC D B
 clear hC D B
 by_cases aH:cn=dn
 ·subst aH
  have bo:((cn:Int) != (cn:Int))=false:=by simp
  clear aj ao
  go_enter Tryz.func46,Tryz.ntmps46
  go_wp2_with fail
  go_loopw [14] (fun i wr=>∃k:Nat,k<=cn/\i = .int .i64 (k:Int)/\Below w.heap.size w wr/\∀j,j<k→xs[j]?.getD Cn.zero=bs[j]?.getD Cn.zero) (fun i _=>cn - (intOf i).toNat)
  ·exact ⟨0,by omega,rfl,Below.refl _ _,fun j hj=>by omega⟩
  obtain ⟨k,hk,rfl,U,K⟩:=hrel
  obtain ⟨g,Z⟩:=hd2 U K
  clear U K
  by_cases a0:k<cn
  ·have be:=dT (by omega:k<cn)
   have al:k<xs.length:=by rw [ar.out];exact a0
   have aQ:k<bs.length:=by rw [a1.out];exact a0
   obtain ⟨bc,oc,SA,m,mc,aR,G,c0,c1,c2,c3,rs⟩:=HC.out.cn (k:=k) al
   obtain ⟨bd,od,TA,m',br,aT,B,W,V,d2,d3,rt⟩:=a7.out.cn (k:=k) aQ
   obtain ⟨bl,bn⟩:=hd2 aR aT
   have ag:=aK g.out G
   have ai:=aK g.out B
   rw [←g.out.cell (p:=⟨bc,oc+k * 4,none⟩) G] at c0
   rw [←g.out.cell (p:=⟨bd,od+k * 4,none⟩) B] at W
   rw [←g.out.cell (p:=⟨bc,oc+k * 4+1,none⟩) G] at c1
   rw [←g.out.cell (p:=⟨bd,od+k * 4+1,none⟩) B] at V
   rw [←g.out.cell (p:=⟨bc,oc+k * 4+2,none⟩) G] at c2
   rw [←g.out.cell (p:=⟨bd,od+k * 4+2,none⟩) B] at d2
   rw [←g.out.cell (p:=⟨bc,oc+k * 4+3,none⟩) G] at c3
   rw [←g.out.cell (p:=⟨bd,od+k * 4+3,none⟩) B] at d3
   have hg:xs[k]?.getD Cn.zero=bs[k]?.getD Cn.zero→∀j,j<k+1→xs[j]?.getD Cn.zero=bs[j]?.getD Cn.zero:=fun h=>bW Z.out h
   have aV:xs=bs→xs[k]?.getD Cn.zero=bs[k]?.getD Cn.zero:=fun h=>by rw [h]
   have R:=a8.out _ (List.getElem_mem al)
   rw [show xs[k]=xs[k]?.getD Cn.zero by rw [List.getElem?_eq_getElem al];rfl] at R
   obtain ⟨HG,Q⟩:=hd2 hg aV
   clear al aQ hg aV aR aT
   obtain rfl:=bl.out
   obtain rfl:=bn.out
   generalize xs[k]?.getD Cn.zero=a at *
   generalize bs[k]?.getD Cn.zero=b at *
   obtain ⟨N,⟨p,q⟩,ss⟩:=a
   obtain ⟨N',⟨p',q'⟩,ts⟩:=b
   simp only at c0 c1 c2 c3 W V d2 d3 R
   have aJ:=Hd (show RdC w w.heap.size (bR ss) (.slice SA m mc) from rs)
   have aW:=Hd (show RdC w w.heap.size (bR ts) (.slice TA m' br) from rt)
   have ad:Hid (ss.length=m):=aJ.out.pinN
   have aG:Hid (ts.length=m'):=aW.out.pinN
   have hm:m<=1048576:=by rw [←ad.out];exact R
   obtain ⟨i0,i1⟩:=ib (by omega:k<cn)
   clear rs rt R
   by_cases hN:N=N'
   ·subst hN
    have dN:(N != N)=false:=by simp
    by_cases av:p=p'/\q=q'
    ·obtain ⟨rfl,rfl⟩:=av
     by_cases aI:m=m'
     ·subst aI
      have dm:((m:Int) != (m:Int))=false:=by simp
      have bm:Hid (ss=ts→∀j,j<k+1→xs[j]?.getD Cn.zero=bs[j]?.getD Cn.zero):=fun h=>HG.out (by rw [h])
      clear HG
      go_upto_region 6 with fail
      have u:=aY wr
      have z:=aP wr
      refine wpB wr ?_
      repeat (go_big_quiet_step ((fail)))
      refine wpQuiet_nil ?_
      rintro _ ⟨⟨w5,D⟩,rfl⟩
      clear u z
      have H:=Hd (aA g.out D)
      clear D
      have bC:=Hd H.out
      have C3:=Hd ((g.out.cell (p:=⟨bc,oc+k * 4+3,none⟩) G).symm.trans c3)
      have D3:=Hd ((g.out.cell (p:=⟨bd,od+k * 4+3,none⟩) B).symm.trans d3)
      have ae:=(H.out.cell (p:=⟨bc,oc+k * 4+3,none⟩) G).trans (((g.out.cell (p:=⟨bc,oc+k * 4+3,none⟩) G)).symm.trans c3)
      have af:=(H.out.cell (p:=⟨bd,od+k * 4+3,none⟩) B).trans (((g.out.cell (p:=⟨bd,od+k * 4+3,none⟩) B)).symm.trans d3)
      have I:=aK H.out G
      have J:=aK H.out B
      clear c0 c1 c2 c3 W V d2 d3 ag ai
      go_wp2_with fail
      clear ae af I J
      go_loopw [62] (fun i wr=>∃j:Nat,j<=m/\i = .int .i64 (j:Int)/\Below w.heap.size w wr/\∀q,q<j→ss[q]?.getD bS.zero=ts[q]?.getD bS.zero) (fun i _=>m - (intOf i).toNat)
      ·exact ⟨0,by omega,rfl,H.out,fun q hq=>by omega⟩
      obtain ⟨j,hj,rfl,U,K⟩:=hrel
      obtain ⟨g,aC⟩:=hd2 U K
      clear U K
      by_cases aq:j<m
      ·have bh:=dT (by omega:j<m)
       have aL:j<ss.length:=by rw [ad.out];exact aq
       have aS:j<ts.length:=by rw [aG.out];exact aq
       obtain ⟨bp,op,aU,au,W,V⟩:=aJ.out.pin (k:=j) aL
       obtain ⟨bq,oq,aX,aF,e0,e1⟩:=aW.out.pin (k:=j) aS
       have ae:=(g.out.cell (p:=⟨bc,oc+k * 4+3,none⟩) G).trans C3.out
       have af:=(g.out.cell (p:=⟨bd,od+k * 4+3,none⟩) B).trans D3.out
       have I:=aK g.out G
       have J:=aK g.out B
       obtain ⟨bj,bg⟩:=hd2 aU aX
       have aw:=aK g.out au
       have aE:=aK g.out aF
       rw [←g.out.cell (p:=⟨bp,op+j * 2,none⟩) au] at W
       rw [←g.out.cell (p:=⟨bp,op+j * 2+1,none⟩) au] at V
       rw [←g.out.cell (p:=⟨bq,oq+j * 2,none⟩) aF] at e0
       rw [←g.out.cell (p:=⟨bq,oq+j * 2+1,none⟩) aF] at e1
       have HG:Hid (ss[j]?.getD bS.zero=ts[j]?.getD bS.zero→∀q,q<j+1→ss[q]?.getD bS.zero=ts[q]?.getD bS.zero):=fun h=>bW aC.out h
       have HN:Hid (ss[j]?.getD bS.zero≠ts[j]?.getD bS.zero→xs≠bs):=fun h h'=>h (by
        have h2:=Q.out h'
        injection h2 with _ _ h3
        rw [h3])
       clear aL aS aU aX
       obtain rfl:=bj.out
       obtain rfl:=bg.out
       generalize ss[j]?.getD bS.zero=s at *
       generalize ts[j]?.getD bS.zero=t at *
       obtain ⟨x,y⟩:=s
       obtain ⟨x',y'⟩:=t
       simp only at W V e0 e1
       obtain ⟨i2,i3⟩:=ib (by omega:j<m)
       by_cases ax:x=x'/\y=y'
       ·obtain ⟨rfl,rfl⟩:=ax
        have az:=Hd (HG.out rfl)
        clear HG HN
        go_upto_region 11 with fail
        have u:=aY wr
        have z:=aP wr
        refine wpB wr ?_
        repeat (go_big_quiet_step ((fail)))
        refine wpQuiet_nil ?_
        rintro _ ⟨⟨w5,D⟩,rfl⟩
        clear u z
        have H:=Hd (aA g.out D)
        clear D W V e0 e1 aw aE ae af I J
        go_wp2_with fail
        go_roundw
        ·exact ⟨j+1,by omega,by go_num,H.out,az.out⟩
        simp [intOf];omega
       have Y:Hid (¬xs=bs):=HN.out fun h=>ax (by injection h with h1 h2;exact ⟨h1,h2⟩)
       clear HG HN
       by_cases hx:x=x'
       ·subst hx
        have dy:(y==y')=false:=by
         cases U:y==y' with
         | false=>rfl
         | true=>exact absurd ⟨rfl,by simpa using U⟩ ax
        go_upto_region 11 with fail
        have u:=aY wr
        have z:=aP wr
        refine wpB wr ?_
        repeat (go_big_quiet_step ((fail)))
        refine wpQuiet_nil ?_
        rintro _ ⟨⟨w5,D⟩,rfl⟩
        clear u z
        have H:=Hd (aA g.out D)
        clear D W V e0 e1 aw aE ae af I J
        go_wp2_with fail
        go_ret
        exact ⟨aO Y.out,H.out⟩
       have dx:(x==x')=false:=by
        cases U:x==x' with
        | false=>rfl
        | true=>exact absurd (by simpa using U) hx
       go_upto_region 11 with fail
       have u:=aY wr
       have z:=aP wr
       refine wpB wr ?_
       repeat (go_big_quiet_step ((fail)))
       refine wpQuiet_nil ?_
       rintro _ ⟨⟨w5,D⟩,rfl⟩
       clear u z
       have H:=Hd (aA g.out D)
       clear D W V e0 e1 aw aE ae af I J
       go_wp2_with fail
       go_ret
       exact ⟨aO Y.out,H.out⟩
      have aN:j=m:=by omega
      have bh:=dF (by omega:m<=j)
      have az:=Hd (bm.out (by
       apply List.ext_getElem
       ·rw [ad.out,aG.out]
       intro q h1 h2
       have h:=aC.out q (by rw [aN,←ad.out];exact h1)
       rwa [List.getElem?_eq_getElem h1,List.getElem?_eq_getElem h2] at h))
      clear aC aN
      go_wp2_with fail
      go_roundw
      ·exact ⟨k+1,by omega,by go_num,g.out,az.out⟩
      simp [intOf];omega
     have Y:Hid (¬xs=bs):=fun h=>aI (by
      have h2:=Q.out h
      injection h2 with _ _ h3
      rw [←ad.out,←aG.out,h3])
     have dm:((m:Int) != (m':Int))=true:=by simp;omega
     clear HG Q aI
     go_upto_region 6 with fail
     have u:=aY wr
     have z:=aP wr
     refine wpB wr ?_
     repeat (go_big_quiet_step ((fail)))
     refine wpQuiet_nil ?_
     rintro _ ⟨⟨w5,D⟩,rfl⟩
     clear u z
     have H:=Hd (aA g.out D)
     clear D c0 c1 c2 c3 W V d2 d3 ag ai
     go_wp2_with fail
     go_ret
     exact ⟨aO Y.out,H.out⟩
    have Y:Hid (¬xs=bs):=fun h=>av (by
     have h2:=Q.out h
     injection h2 with _ h3 _
     injection h3 with h4 h5
     exact ⟨h4,h5⟩)
    clear HG Q
    by_cases hp:p=p'
    ·subst hp
     have dq:(q==q')=false:=by
      cases U:q==q' with
      | false=>rfl
      | true=>exact absurd ⟨rfl,by simpa using U⟩ av
     go_upto_region 6 with fail
     have u:=aY wr
     have z:=aP wr
     refine wpB wr ?_
     repeat (go_big_quiet_step ((fail)))
     refine wpQuiet_nil ?_
     rintro _ ⟨⟨w5,D⟩,rfl⟩
     clear u z
     have H:=Hd (aA g.out D)
     clear D c0 c1 c2 c3 W V d2 d3 ag ai
     go_wp2_with fail
     go_ret
     exact ⟨aO Y.out,H.out⟩
    have dp:(p==p')=false:=by
     cases U:p==p' with
     | false=>rfl
     | true=>exact absurd (by simpa using U) hp
    go_upto_region 6 with fail
    have u:=aY wr
    have z:=aP wr
    refine wpB wr ?_
    repeat (go_big_quiet_step ((fail)))
    refine wpQuiet_nil ?_
    rintro _ ⟨⟨w5,D⟩,rfl⟩
    clear u z
    have H:=Hd (aA g.out D)
    clear D c0 c1 c2 c3 W V d2 d3 ag ai
    go_wp2_with fail
    go_ret
    exact ⟨aO Y.out,H.out⟩
   have Y:Hid (¬xs=bs):=fun h=>hN (by
    have h2:=Q.out h
    injection h2 with h3 _ _)
   have dN:(N != N')=true:=by simp [hN]
   clear HG Q hN
   go_upto_region 6 with fail
   have u:=aY wr
   have z:=aP wr
   refine wpB wr ?_
   repeat (go_big_quiet_step ((fail)))
   refine wpQuiet_nil ?_
   rintro _ ⟨⟨w5,D⟩,rfl⟩
   clear u z
   have H:=Hd (aA g.out D)
   clear D c0 c1 c2 c3 W V d2 d3 ag ai
   go_wp2_with fail
   go_ret
   exact ⟨aO Y.out,H.out⟩
  have aZ:k=cn:=by omega
  have be:=dF (by omega:cn<=k)
  have Y:Hid (xs=bs):=by
   show xs=bs
   apply List.ext_getElem
   ·rw [ar.out,a1.out]
   intro q h1 h2
   have h:=Z.out q (by rw [aZ,←ar.out];exact h1)
   rwa [List.getElem?_eq_getElem h1,List.getElem?_eq_getElem h2] at h
  clear Z aZ
  go_wp2_with fail
  go_ret
  exact ⟨dU Y.out,g.out⟩
 have Y:Hid (¬xs=bs):=fun h=>aH (by rw [←aj,←ao,h])
 have bo:((cn:Int) != (dn:Int))=true:=by simp;omega
 clear aj ao aH
 go_enter Tryz.func46,Tryz.ntmps46
 go_wp2_with fail
 go_ret
 exact ⟨aO Y.out,Below.refl _ _⟩
theorem BR (d:Dev) (t p:Int) (w:World) :
  Calls Tryz.prog 219 #[.agg (dv d),.int .i64 t,.int .i64 p] w fun e w'=>e = .returned (.int .i64 (oI d t p))/\Below w.heap.size w w':=by
 have G:Hid (oI d t p=if bB d t=true/\0<=p/\p<jT (bL d t) then t * aV d+p else -1):=rfl
 go_enter Tryz.func219,Tryz.ntmps219
 go_wp2_with fail
 cases ht:bB d t with
 | false =>
  refine (jP ht _).mono ?_
  rintro e w1 ⟨rfl,j⟩
  have H:=Hd (aA (aB (Below.refl _ _) _) j)
  have J:=Hd ht
  clear j ht
  go_wp2_with fail
  go_ret
  exact ⟨aL (by rw [G.out,if_neg (by rw [J.out];simp)]),H.out⟩
 | true =>
  refine (jP ht _).mono ?_
  rintro e w1 ⟨rfl,j⟩
  have H:=Hd (aA (aB (Below.refl _ _) _) j)
  have D1:=Hd j
  obtain ⟨hcc,q⟩:=bG j
  have I:=j.size
  simp only [World.size_alloc] at I
  obtain ⟨u,z,ai⟩:=aU.1 ht
  have aj:=fJ u
  have hT:=ay u
  have Y:=eP u
  have ak:=pM d t
  have HM:=Hd (jc z (show t<=35 by omega) (show 0<=aV d by omega) Y.2)
  obtain ⟨J,Z⟩:=hd2 ht u
  clear j ht u
  go_wp2_with fail
  refine (mV d t _ Z.out z (by omega)).mono ?_
  rintro e w2 ⟨rfl,B⟩
  have R:=Hd (aA H.out B)
  have D2:=Hd (aA D1.out B)
  have ah:=B.size
  clear B hcc q
  obtain ⟨hcc,q⟩:=bG D2.out
  generalize V:bL d t=K at *
  have HK:=Hd V
  clear V
  go_wp2_with (go_at_call 258;refine (tu _ _).mono ?_;rintro e w' ⟨rfl,rfl⟩)
  generalize U:jT K=Q at *
  have HQ:=Hd U
  clear U
  have e3:IntKind.i64.wrap (Q - 1)=Q - 1:=IntWalk.i64_in _ (by omega)
  cases g:inR p 0 (Q - 1) with
  | false =>
   have D:=Hd g
   clear g
   go_wp2_with (go_at_call 93;refine (bV D.out _).mono ?_;rintro e w' ⟨rfl,rfl⟩)
   go_ret
   exact ⟨aL (by rw [G.out,if_neg];rintro ⟨_,h0,h1⟩;have:=qj.1 D.out;omega),R.out⟩
  | true =>
   have D:=Hd g
   have hi:=aR.1 g
   clear g
   go_wp2_with (go_at_call 93;refine (bV D.out _).mono ?_;rintro e w' ⟨rfl,rfl⟩)
   refine (iC d _ (by omega) (by omega)).mono ?_
   rintro e w3 ⟨rfl,W⟩
   have B3:=Hd (aA R.out W)
   have hM:=HM.out
   clear W hcc q e3
   go_wp2_with fail
   go_ret
   exact ⟨aL (by rw [G.out,if_pos ⟨J.out,by omega,by omega⟩]),B3.out⟩
theorem uE (d:Dev) (n:Int) (w:World) :
  Calls Tryz.prog 223 #[.agg (dv d),.int .i64 n] w fun e w'=>e = .returned (.bool (bQ d n && decide (n % aV d<5)))/\Below w.heap.size w w':=by
 go_enter Tryz.func223,Tryz.ntmps223
 go_wp2_with fail
 cases g:bQ d n with
 | false =>
  have j:=Hd g
  refine (fV d n _).mono ?_
  rw [g]
  rintro e Q ⟨rfl,u⟩
  have z:=Hd (aA (aB (Below.refl _ _) _) u)
  clear u g
  go_wp2_with fail
  go_ret
  exact ⟨dC (by rw [j.out];rfl),z.out⟩
 | true =>
  have B:fP d n=true:=by unfold bQ at g;rw [Bool.and_eq_true] at g;exact g.1
  obtain ⟨G,j⟩:=hd2 B g
  refine (fV d n _).mono ?_
  rw [g]
  rintro e Q ⟨rfl,u⟩
  have z:=Hd u
  have H:=u.size
  simp only [World.size_alloc] at H
  obtain ⟨hcc,I⟩:=bG u
  clear u g B
  go_wp2_with fail
  refine (jO d n _ G.out).mono ?_
  rintro e R ⟨rfl,J⟩
  have D:=Hd (aA (aB (Below.refl _ _) _) (aA z.out J))
  clear J hcc I
  generalize hk:n % aV d=k at *
  have K:=Hd hk
  clear hk
  by_cases h5:k<5
  ·have q:decide (k<5)=true:=decide_eq_true h5
   go_wp2_with fail
   go_ret
   exact ⟨dC (by rw [j.out,K.out,q];rfl),D.out⟩
  have q:decide (k<5)=false:=decide_eq_false h5
  go_wp2_with fail
  go_ret
  exact ⟨dC (by rw [j.out,K.out,q];rfl),D.out⟩
theorem vP (d:Dev) (place:List Int) (N a b:Int) (ss:List bS) (PA SA:Option Addr) (pn pc m u:Nat) (w:World) (Q:dP w PA pn place) (ar:pn<=1048576) :
  Calls Tryz.prog 133 #[.agg (dv d),.slice PA pn pc,.agg #[.int .i64 N,.int .i64 a,.int .i64 b,.slice SA m u]] w fun e w'=>e = .returned (.int .i64 (fQ d place ⟨N,⟨a,b⟩,ss⟩))/\Below w.heap.size w w':=by
 have HP:=Hd Q
 have z:fQ d place ⟨N,⟨a,b⟩,ss⟩=if 0<=a/\a<(place.length:Int) then eX d (place[a.toNat]?.getD 0) b else -1:=rfl
 rw [Q.1] at z
 clear Q
 have q:=Hd (aB (aB (Below.refl w.heap.size w) (.cells (dv d) 36)) (.cells #[.int .i64 N,.int .i64 a,.int .i64 b,.slice SA m u] 158))
 have j:=aW (.cells #[.int .i64 N,.int .i64 a,.int .i64 b,.slice SA m u] 158) (aI w (.cells (dv d) 36))
 have g:=aI (w.alloc (.cells (dv d) 36)) (.cells #[.int .i64 N,.int .i64 a,.int .i64 b,.slice SA m u] 158)
 simp only [World.size_alloc] at g
 obtain ⟨J,G⟩:=hd2 j g
 clear j g
 cases hr:inR a 0 ((pn:Int) - 1) with
 | false =>
  have U:Hid (fQ d place ⟨N,⟨a,b⟩,ss⟩=-1):=by show _=_;rw [z,if_neg fun h=>by rw [aR.2 (by omega)] at hr;cases hr]
  have K:=Hd hr
  clear hr z
  go_enter Tryz.func133,Tryz.ntmps133
  go_upto_region 1 with fail
  generalize (w.alloc (.cells (dv d) 36)).alloc (.cells #[.int .i64 N,.int .i64 a,.int .i64 b,.slice SA m u] 158)=I at *
  have j:=J.out
  have g:=G.out
  obtain ⟨x0,x1,x2,Z⟩:=cs4 j
  obtain ⟨y0,y1,y2,Y⟩:=cs4 g
  have lx:=aC j
  have ly:=aC g
  clear j g
  go_wp2_with fail
  refine (aM a 0 ((pn:Int) - 1) _).mono ?_
  rw [K.out]
  rintro _ w1 ⟨rfl,rfl⟩
  go_wp2_with fail
  go_ret
  exact ⟨aL U.out.symm,q.out⟩
 | true =>
  have ha:=aR.1 hr
  obtain ⟨X,rfl⟩:∃X:Nat,a=(X:Int):=⟨a.toNat,by omega⟩
  have hX:X<pn:=by omega
  rw [if_pos ⟨by omega,by omega⟩,Int.toNat_natCast] at z
  obtain ⟨bp,op,rfl,D,H⟩:=HP.out.2 (by omega)
  have cp:=(q.out.cell (p:=⟨bp,op+X,none⟩) D).trans (H X hX)
  have W:=aK q.out D
  generalize place[X]?.getD 0=t at *
  obtain ⟨U,K⟩:=hd2 z hr
  have iX:(X:Int)<(pn:Int):=by omega
  clear hr z H ha
  go_enter Tryz.func133,Tryz.ntmps133
  go_upto_region 1 with fail
  generalize (w.alloc (.cells (dv d) 36)).alloc (.cells #[.int .i64 N,.int .i64 (X:Int),.int .i64 b,.slice SA m u] 158)=I at *
  have j:=J.out
  have g:=G.out
  obtain ⟨x0,x1,x2,Z⟩:=cs4 j
  obtain ⟨y0,y1,y2,Y⟩:=cs4 g
  have lx:=aC j
  have ly:=aC g
  clear j g
  go_wp2_with fail
  refine (aM (X:Int) 0 ((pn:Int) - 1) _).mono ?_
  rw [K.out]
  rintro _ w1 ⟨rfl,rfl⟩
  have V:=Hd (fun (x:Sub I)=>uA d t b x.v)
  go_upto_region 3 with fail
  have B:=aY I
  have R:=aP I
  refine wpB I ?_
  repeat (go_big_quiet_step ((first
   | (go_at_call 224;with_reducible exact aN (V.out _)))))
  refine wpQuiet_nil ?_
  rintro _ ⟨⟨w5,hD⟩,rfl⟩
  clear B R
  have HD:=Hd (aA q.out hD)
  clear hD x0 x1 x2 Z y0 y1 y2 Y lx ly cp W
  go_wp2_with fail
  go_ret
  exact ⟨aL U.out.symm,HD.out⟩
theorem wL (d:Dev) (place:List Int) (N a b:Int) (ss:List bS) (PA SA:Option Addr) (pn pc m U:Nat) (w:World) (hp:dP w PA pn place) (hs:RdC w w.heap.size (bR ss) (.slice SA m U)) (bt:pn<=1048576) (hm:m<=1048576) :
  Calls Tryz.prog 131 #[.agg (dv d),.slice PA pn pc,.agg #[.int .i64 N,.int .i64 a,.int .i64 b,.slice SA m U]] w fun e w'=>(gy d place ⟨N,⟨a,b⟩,ss⟩/\(∃A c,e = .returned (.slice A m c)/\Own w.heap.size w' A m c (dL d place ⟨N,⟨a,b⟩,ss⟩))∨¬gy d place ⟨N,⟨a,b⟩,ss⟩/\e = .returned (.slice none 0 0))/\Below w.heap.size w w':=by
 obtain ⟨HP,ao⟩:=hd2 hp hs
 have J:Hid (ss.length=m):=hs.pinN
 clear hp hs
 have K:=Hd (aB (aB (Below.refl w.heap.size w) (.cells (dv d) 36)) (.cells #[.int .i64 N,.int .i64 a,.int .i64 b,.slice SA m U] 158))
 have V:=aW (.cells #[.int .i64 N,.int .i64 a,.int .i64 b,.slice SA m U] 158) (aI w (.cells (dv d) 36))
 have Q:=aI (w.alloc (.cells (dv d) 36)) (.cells #[.int .i64 N,.int .i64 a,.int .i64 b,.slice SA m U] 158)
 simp only [World.size_alloc] at Q
 obtain ⟨ad,ax⟩:=hd2 V Q
 clear V Q
 go_enter Tryz.func131,Tryz.ntmps131
 go_upto_region 1 with fail
 generalize (w.alloc (.cells (dv d) 36)).alloc (.cells #[.int .i64 N,.int .i64 a,.int .i64 b,.slice SA m U] 158)=W9 at *
 have V:=ad.out
 have Q:=ax.out
 have x0:=aF (k:=0) V rfl
 obtain ⟨y0,y1,y2,y3⟩:=cs4 Q
 have lx:=aC V
 have ly:=aC Q
 clear V Q
 go_wp2_with fail
 clear x0 y0 y1 y2 y3 lx ly
 go_loopw [7,14] (fun v i wr=>∃(k:Nat) (A:Option Addr) (c:Nat),k<=m/\i = .int .i64 (k:Int)/\v = .slice A k c/\aJ W9 wr [.cel (aH ((ss.take k).map (dH d place))) (.slice A k c)]/\∀j,j<k→0<=dH d place (ss[j]?.getD bS.zero)) (fun _ i _=>m - (intOf i).toNat)
 ·exact ⟨0,none,0,by omega,rfl,rfl,(aJ.refl W9).pushNil 3 1,fun j hj=>by omega⟩
 obtain ⟨k,A1,c1,hk,rfl,rfl,hs,H⟩:=hrel
 obtain ⟨HS,q⟩:=hd2 hs H
 have B:=Hd (aA K.out hs.bel)
 clear hs H
 by_cases a1:k<m
 ·have ar:=dT (by omega:k<m)
  have u:k<ss.length:=by rw [J.out];exact a1
  obtain ⟨bs,os,af,R,d0,d1⟩:=ao.out.pin (k:=k) u
  have aT:=Hd af
  have ay:=aK B.out R
  rw [←B.out.cell (p:=⟨bs,os+k * 2,none⟩) R] at d0
  rw [←B.out.cell (p:=⟨bs,os+k * 2+1,none⟩) R] at d1
  have Z:Hid (0<=dH d place (ss[k]?.getD bS.zero)→∀j,j<k+1→0<=dH d place (ss[j]?.getD bS.zero)):=fun h=>bW q.out h
  have g:Hid (¬0<=dH d place (ss[k]?.getD bS.zero)→¬gy d place ⟨N,⟨a,b⟩,ss⟩):=fun h h'=>h (by rw [List.getElem?_eq_getElem u];exact h' _ (List.getElem_mem u))
  have D:=Hd (show (ss.take (k+1)).map (dH d place)=(ss.take k).map (dH d place)++[dH d place (ss[k]?.getD bS.zero)] from by rw [bU (z:=bS.zero) u,List.map_append];rfl)
  clear u af
  obtain rfl:=aT.out
  generalize ss[k]?.getD bS.zero=p at *
  obtain ⟨x,y⟩:=p
  simp only at d0 d1
  have W:dH d place ⟨x,y⟩=if 0<=x/\x<(place.length:Int) then oI d (place[x.toNat]?.getD 0) y else -1:=rfl
  rw [HP.out.1] at W
  obtain ⟨i0,i1⟩:=ib (by omega:k<m)
  have HA:=Hd (HS.out.alloc (.cells #[.int .i64 x,.int .i64 y] 100))
  obtain ⟨q0,q1,lq⟩:=jv (aI wr (.cells #[.int .i64 x,.int .i64 y] 100))
  go_upto_region 5 with fail
  clear d0 d1 ay
  generalize wr.alloc (.cells #[.int .i64 x,.int .i64 y] 100)=W6 at *
  have G:=Hd (aA K.out HA.out.bel)
  obtain ⟨x0,x1,x2,x3,lx⟩:=cO (aD HA.out.bel ad.out)
  cases hr:inR x 0 ((pn:Int) - 1) with
  | false =>
   have a2:dH d place ⟨x,y⟩=-1:=by rw [W,if_neg fun h=>by rw [aR.2 (by omega)] at hr;cases hr]
   have HR:=Hd (g.out (by omega))
   have H1:=Hd hr
   clear hr W a2 Z g D
   go_wp2_with fail
   refine (aM x 0 ((pn:Int) - 1) _).mono ?_
   rw [H1.out]
   rintro _ w1 ⟨rfl,rfl⟩
   clear x0 x1 x2 x3 lx q0 q1 lq
   go_wp2_with fail
   go_ret
   exact ⟨.inr ⟨HR.out,rfl⟩,G.out⟩
  | true =>
   have ha:=aR.1 hr
   obtain ⟨X,rfl⟩:∃X:Nat,x=(X:Int):=⟨x.toNat,by omega⟩
   have hX:X<pn:=by omega
   rw [if_pos ⟨by omega,by omega⟩,Int.toNat_natCast] at W
   obtain ⟨bp,op,ai,Y,ag⟩:=HP.out.2 (by omega)
   have aS:=Hd ai
   have cp:=(G.out.cell (p:=⟨bp,op+X,none⟩) Y).trans (ag X hX)
   have aq:=aK G.out Y
   clear ai
   obtain rfl:=aS.out
   generalize place[X]?.getD 0=t at *
   obtain ⟨aU,H1⟩:=hd2 W hr
   have iX:(X:Int)<(pn:Int):=by omega
   clear hr W ag ha
   go_wp2_with fail
   refine (aM (X:Int) 0 ((pn:Int) - 1) _).mono ?_
   rw [H1.out]
   rintro _ w1 ⟨rfl,rfl⟩
   have aX:=Hd (fun (x:Sub W6)=>BR d t y x.v)
   go_upto_region 7 with fail
   have ae:=aY W6
   have az:=aP W6
   refine wpB W6 ?_
   repeat (go_big_quiet_step ((first
    | (go_at_call 219;with_reducible exact aN (aX.out _)))))
   refine wpQuiet_nil ?_
   rintro _ ⟨⟨w5,hD⟩,rfl⟩
   clear ae az
   have aw:=Hd (HA.out.below hD)
   have au:=Hd (aA G.out hD)
   clear hD x0 x1 x2 x3 lx q0 q1 lq cp aq
   rw [aU.out] at Z g D
   generalize oI d t y=z at *
   by_cases hz:0<=z
   ·have dz:decide (z<0)=false:=decide_eq_false (by omega)
    have aO:=Hd (Z.out hz)
    clear Z g
    go_wp2_with (at_builtin;refine gF rfl _ _ rfl _ (aw.out.alloc _) 0 A1 k c1 ((ss.take k).map (dH d place)) z _ (0,0) rfl rfl rfl (aI _ _) (by omega) ?_;intro g9 bg w9 S9 aG;have aZ:=Hd S9;clear S9 aG)
    go_roundw
    ·exact ⟨k+1,_,_,by omega,by go_num,rfl,by rw [D.out];exact aZ.out,aO.out⟩
    simp [intOf];omega
   have dz:decide (z<0)=true:=decide_eq_true (by omega)
   have HR:=Hd (g.out (by omega))
   clear Z g D
   go_wp2_with fail
   go_ret
   exact ⟨.inr ⟨HR.out,rfl⟩,au.out⟩
 have I:k=m:=by omega
 have ar:=dF (by omega:m<=k)
 have HR:Hid (gy d place ⟨N,⟨a,b⟩,ss⟩):=fun p hp=>by
  obtain ⟨j,hj,rfl⟩:=List.getElem_of_mem hp
  have h:=q.out j (by rw [I,←J.out];exact hj)
  rwa [List.getElem?_eq_getElem hj] at h
 have HD:Hid (aJ W9 wr [.cel (aH (dL d place ⟨N,⟨a,b⟩,ss⟩)) (.slice A1 m c1)]):=by
  have h:=HS.out
  rwa [I,List.take_of_length_le (by rw [J.out];exact Nat.le_refl _)] at h
 subst I
 clear HS q
 go_wp2_with fail
 go_ret
 exact ⟨.inl ⟨HR.out,_,_,rfl,(HD.out.owned 0 rfl).more K.out.size⟩,B.out⟩
def mP (x:Int):Prop:=-9223372036854775808<=x/\x<=9223372036854775807
theorem F5 {x:Int} (h:mP x):(Lit.int .i64 x).wf=true:=by
 unfold mP at h
 unfold Lit.wf
 rw [Bool.and_eq_true]
 exact ⟨decide_eq_true h.1,decide_eq_true h.2⟩
theorem EW:Maps.Keyed Tryz.prog 3:=Maps.int_keyed Tryz.underlying3
theorem FU {x:Int} (h:mP x):keyOf Tryz.prog 3 (.int .i64 x)=some (.int .i64 x):=Maps.keyOf_int_mk Tryz.underlying3 (F5 h)
theorem rY {v:Value} {x:Bool} {p:List MemPlace} (h:plainElem (H:=Unit) Tryz.prog 4 v=some (.lit (.bool x),p)):v = .bool x:=by
 unfold plainElem at h
 rw [Tryz.underlying4] at h
 cases v <;> simp at h
 rename_i y
 rw [h.1]
def oO (w:World) (b:Nat) (l:List Int):Prop :=
 ∃D:DataW Unit,w.ownsMap Tryz.prog 3 (plainElem Tryz.prog 4) b l.length D/\∀x:Int,D.atKey (.int .i64 x) (.lit (.bool false)) = .lit (.bool (decide (x∈l)))
theorem oO.made (w:World):oO (w.alloc (.map #[] 0)) w.heap.size []:=⟨.map [],World.ownsMap_made w _ _ _,fun x=>by simp;rfl⟩
theorem oO.lt {w:World} {b:Nat} {l:List Int} (h:oO w b l):b<w.heap.size:=by
 obtain ⟨D,h1,_⟩:=h
 exact h1.lt
theorem oO.keep {w w':World} {b:Nat} {l:List Int} (h:oO w b l) (hk:w'.heap[b]?=w.heap[b]?):oO w' b l:=by
 obtain ⟨D,⟨es,j,g,hr⟩,h2⟩:=h
 exact ⟨D,⟨es,j,hk.trans g,hr⟩,h2⟩
theorem oO.below {w w':World} {b:Nat} {l:List Int} (h:oO w b l) (g:Below w.heap.size w w'):oO w' b l:=h.keep (g.block b h.lt)
theorem F3 (w:World):(zeroValue 4).run Tryz.prog w = .ok (.bool false) w:=by kernel_rfl
theorem oO.look {w:World} {b:Nat} {l:List Int} (h:oO w b l) {g:Int} (hk:mP g):(Instr.lookup 171 (.map (some b)) (.int .i64 g) false).run Tryz.prog w = .ok (.bool (decide (g∈l))) w:=by
 obtain ⟨D,h1,h2⟩:=h
 obtain ⟨v,ps,hr,j⟩:=h1.lookup EW Tryz.underlying171 (F3 w) (plainElem_bool Tryz.underlying4 false) (FU hk)
 rw [h2 g] at j
 rw [hr,rY j]
abbrev sj (b:Nat) (l:List Int):Pc := .own b fun w=>oO w b l
theorem aJ.setPut {W w:World} {ps:List Pc} (S:aJ W w ps) (i:Nat) {b:Nat} {l:List Int} (hi:ps[i]?=some (sj b l)) (hn:l.length<100000) (g:Int) (hk:mP g) :
  ∃w',(Instr.mapUpdate 171 (.map (some b)) (.int .i64 g) (.bool true)).run Tryz.prog w = .ok () w'/\aJ W w' (ps.set i (sj b (l++[g])))/\w.heap.size<=w'.heap.size:=by
 obtain ⟨⟨D,h1,h2⟩,_,_⟩:=S.own i hi
 obtain ⟨w',B,z,q⟩:=h1.store EW Tryz.underlying171 (by unfold maxLen;omega) (FU hk) (plainElem_bool Tryz.underlying4 true)
 refine ⟨w',B,S.own_upd i hi q.grown ⟨_,by rw [List.length_append];exact z,fun x=>?_⟩ (fun G H e h=>h.keep e),q.grown.size⟩
 have u:=World.ownsMap.isMap h1
 by_cases e:x=g
 ·subst e
  rw [Maps.atKey_put_same u (by trivial)]
  simp
 have j:(Lit.int .i64 x) ≠ .int .i64 g:=fun h=>e (by injection h)
 rw [Maps.atKey_put_other j,h2 x]
 simp [e]
theorem aJ.pushSet {W w:World} {ps:List Pc} (h:aJ W w ps):aJ W (w.alloc (.map #[] 0)) (ps++[sj w.heap.size []]) :=
 h.push (aB (Below.refl _ _) _) (G:=[w.heap.size]) ⟨rfl,by simp,oO.made w,fun _ _ e h=>h.keep e⟩ (by simp) (by simp)
theorem aJ.look {W w:World} {ps:List Pc} (S:aJ W w ps) (i:Nat) {b:Nat} {l:List Int} (hi:ps[i]?=some (sj b l)) {g:Int} (hk:mP g):(Instr.lookup 171 (.map (some b)) (.int .i64 g) false).run Tryz.prog w = .ok (.bool (decide (g∈l))) w:=(S.own i hi).1.look hk
theorem rE {ops:Array Oper} {rest:List Oper} {o:Oper} {a:Act} {Q:Exit→Act→World→Prop} {w W:World} (hg:o.guard=none) (z x v:Operand) (u:o.op=Op.mapUpdate 171 z x v)
  (ps:List Pc) (S:aJ W w ps) (i b:Nat) (l:List Int) (hi:ps[i]?=some (sj b l)) (D:a.eval z = .map (some b)) (hn:l.length<100000) (g:Int) (H:a.eval x = .int .i64 g) (B:a.eval v = .bool true)
  (hk:mP g) (h:∀w',aJ W w' (ps.set i (sj b (l++[g])))→w.heap.size<=w'.heap.size→wpList Tryz.prog ops Q rest (a.put o.dst undef) w'):wpList Tryz.prog ops Q (o :: rest) a w:=by
 refine wpList_plain hg fun J q=>?_
 obtain ⟨w',j,I,G⟩:=S.setPut i hi hn g hk
 unfold Oper.wp
 simp [execOp,u,D,H,B,j,Result.andThen]
 exact q _ _ (h w' I G)
theorem jK (d:Dev) (n:Int) (w:World) :
  Calls Tryz.prog 221 #[.agg (dv d),.int .i64 n] w fun e w'=>e = .returned (.bool (bQ d n && (decide (n % aV d=5) || decide (n % aV d=6))))/\Below w.heap.size w w':=by
 go_enter Tryz.func221,Tryz.ntmps221
 go_wp2_with fail
 cases g:bQ d n with
 | false =>
  have j:=Hd g
  refine (fV d n _).mono ?_
  rw [g]
  rintro e V ⟨rfl,u⟩
  have z:=Hd (aA (aB (Below.refl _ _) _) u)
  clear u g
  go_wp2_with fail
  go_ret
  exact ⟨dC (by rw [j.out];rfl),z.out⟩
 | true =>
  have G:fP d n=true:=by unfold bQ at g;rw [Bool.and_eq_true] at g;exact g.1
  obtain ⟨I,j⟩:=hd2 G g
  refine (fV d n _).mono ?_
  rw [g]
  rintro e V ⟨rfl,u⟩
  have z:=Hd u
  have J:=u.size
  simp only [World.size_alloc] at J
  obtain ⟨hcc,R⟩:=bG u
  clear u g G
  go_wp2_with fail
  refine (jO d n _ I.out).mono ?_
  rintro e Y ⟨rfl,U⟩
  have B:=Hd (aA (aB (Below.refl _ _) _) (aA z.out U))
  clear U hcc R
  generalize hk:n % aV d=k at *
  have Q:=Hd hk
  clear hk
  by_cases h5:k=5
  ·have q:(k==5)=true:=by simpa using h5
   have H:=Hd h5
   clear h5
   go_wp2_with fail
   go_ret
   exact ⟨dC (by rw [j.out,Q.out,H.out];rfl),B.out⟩
  have q:(k==5)=false:=by simpa using h5
  by_cases D:k=6
  ·have W:(k==6)=true:=by simpa using D
   have K:=Hd D
   clear h5 D
   go_wp2_with fail
   go_ret
   exact ⟨dC (by rw [j.out,Q.out,K.out];rfl),B.out⟩
  have W:(k==6)=false:=by simpa using D
  obtain ⟨H,K⟩:=hd2 h5 D
  clear h5 D
  go_wp2_with fail
  go_ret
  exact ⟨dC (by rw [j.out,Q.out];simp [H.out,K.out]),B.out⟩
theorem lm (d:Dev) (n:Int):(fe d n).length<=26:=by
 unfold fe
 split
 ·rename_i h
  have g:=h.1
  unfold bQ at g
  rw [Bool.and_eq_true] at g
  have D:=ay (il g.1).1
  have h1:=jQ (jl d (n / aV d) (n % aV d))
  have u:∀(r:Int) (k:Nat),(iQ d (n / aV d) (n % aV d) r (k:Int) (bg (k:Int)).toNat).length<=1+k % 2:=by
   intro r k
   have B:(bg (k:Int)).toNat=1+k % 2:=by unfold bg;omega
   have q:∀s:Int,(mH d (n / aV d) (n % aV d) r (k:Int) s).length<=1:=by
    intro s;unfold mH mO;split <;> (try split) <;> simp
   have:∀s:Nat,(iQ d (n / aV d) (n % aV d) r (k:Int) s).length<=s:=by
    intro s
    induction s with
    | zero=>simp [iQ]
    | succ s ih=>rw [nR,List.length_append];have:=q ((s:Int)+1);omega
   have:=this (bg (k:Int)).toNat
   omega
  have j:∀(r:Int) (k:Nat),(jF d (n / aV d) (n % aV d) r k).length<=k+k / 2:=by
   intro r k
   induction k with
   | zero=>simp [jF]
   | succ k ih=>rw [nS,List.length_append];have:=u r k;omega
  have hA:∀r:Nat,(iH d (n / aV d) (n % aV d) r).length<=6 * r:=by
   intro r
   induction r with
   | zero=>simp [iH]
   | succ r ih=>rw [nT,List.length_append];have:=j (r:Int) d.T.toNat;omega
  have:=hA 4
  have ho:(jC d (n / aV d)).length<=2:=by unfold jC;split <;> simp
  have z:(jl d (n / aV d) (n % aV d)).length<=26:=by
   unfold jl
   rw [List.length_append]
   split
   ·omega
   simp;omega
  omega
 simp
/-! ### a tile's node -/
theorem gU (d:Dev) (w:World) :
  Calls Tryz.prog 220 #[.agg (dv d)] w fun e w'=>e = .returned (.int .i64 (ik d))/\Below w.heap.size w w':=by
 have z:=Hd (aB (Below.refl w.heap.size w) (.cells (dv d) 36))
 have u:=aI w (.cells (dv d) 36)
 have Q:=Hd u
 obtain ⟨J,H,G,B,I⟩:=cO u
 clear u
 cases j:dR d with
 | false =>
  have K:Hid (ik d=0):=by show _=_;unfold ik;rw [j];rfl
  have D:=Hd j
  clear j
  go_enter Tryz.func220,Tryz.ntmps220
  go_upto_region 1 with fail
  generalize w.alloc (.cells (dv d) 36)=W at *
  go_wp2_with fail
  refine (fu d _).mono ?_
  rw [D.out]
  rintro _ V ⟨rfl,q⟩
  have g:=Hd (aA z.out q)
  clear q J H G B I
  go_wp2_with fail
  go_ret
  exact ⟨aL K.out.symm,g.out⟩
 | true =>
  have K:Hid (ik d=gH d):=by show _=_;unfold ik;rw [if_pos j]
  have D:=Hd j
  clear j
  go_enter Tryz.func220,Tryz.ntmps220
  go_upto_region 1 with fail
  generalize w.alloc (.cells (dv d) 36)=W at *
  go_wp2_with fail
  refine (fu d _).mono ?_
  rw [D.out]
  rintro _ V ⟨rfl,q⟩
  have g:=Hd (aA z.out q)
  have u:=aD q Q.out
  clear q J H G B I
  obtain ⟨J,H,G,B,I⟩:=cO u
  clear u
  go_wp2_with fail
  refine (nQ d _ D.out).mono ?_
  rintro _ Y ⟨rfl,U⟩
  have R:=Hd (aA g.out U)
  clear U J H G B I
  go_wp2_with fail
  go_ret
  exact ⟨aL K.out.symm,R.out⟩
theorem dB.bd {d:Dev} {src:Int} {g:List Int} {r:Rou} (h:dB d src g r):r.nodes.length<=828:=by
 have h1:=h.len.2
 have h2:=fZ h.dev
 omega
theorem EX {d:Dev} {n:Int} (h:bQ d n=true):mP n:=by
 unfold bQ at h
 rw [Bool.and_eq_true] at h
 have:=il h.1
 unfold mP
 omega
theorem zq (d:Dev) (src:Int) (Q:List Int) (r:Rou) (KA NA FA:Option Addr) (kn kc I nc fn fc:Nat) (w:World) (hk:dP w KA kn Q) (hn:dP w NA I r.nodes) (hf:dP w FA fn r.from_) (ch:kn<=1048576) (ds:I<=1048576) (dq:fn<=1048576) (cc:∀s∈Q,mP s) :
  Calls Tryz.prog 132 #[.agg (dv d),.int .i64 src,.slice KA kn kc,.agg #[.slice NA I nc,.slice FA fn fc]] w fun e w'=>e = .returned (.bool (tb (dB d src Q r)))/\Below w.heap.size w w':=by
 obtain ⟨bg,HN,bE,bt⟩:=hd4 hk hn hf cc
 clear hk hn hf cc
 have aq:=Hd (aB (aB (Below.refl w.heap.size w) (.cells (dv d) 36)) (.cells #[.slice NA I nc,.slice FA fn fc] 114))
 have B:=aW (.cells #[.slice NA I nc,.slice FA fn fc] 114) (aI w (.cells (dv d) 36))
 have g:=aI (w.alloc (.cells (dv d) 36)) (.cells #[.slice NA I nc,.slice FA fn fc] 114)
 simp only [World.size_alloc] at g
 obtain ⟨W,Z⟩:=hd2 B g
 clear B g
 by_cases c1:I<1
 ·have HR:Hid (¬dB d src Q r):=fun h=>by have:=h.len.1;rw [HN.out.1] at this;omega
  have d1:decide ((I:Int)<1)=true:=decide_eq_true (by omega)
  have cM:decide (I<1)=true:=decide_eq_true c1
  go_enter Tryz.func132,Tryz.ntmps132
  go_upto_region 1 with fail
  generalize (w.alloc (.cells (dv d) 36)).alloc (.cells #[.slice NA I nc,.slice FA fn fc] 114)=J at *
  have B:=W.out
  have g:=Z.out
  obtain ⟨x0,x1,x2,x3⟩:=cs4 B
  obtain ⟨V,y1⟩:=cs2 g
  have R:=aC B
  have U:=aC g
  clear B g
  have ak:=Hd (fun (x:Sub J)=>gU d x.v)
  have G:=fun (x:Sub J)=>jK d src x.v
  skip
  have af:=Hd G
  clear G
  have u:=aY J
  have K:=aP J
  refine wpB J ?_
  repeat (go_big_quiet_step ((first
   | (go_at_call 220;with_reducible exact aN (ak.out _))
   | (go_at_call 221;with_reducible exact aN (af.out _)))))
  refine wpQuiet_nil ?_
  rintro _ ⟨⟨w5,H⟩,rfl⟩
  clear u K
  have HD:=Hd (aA aq.out H)
  have ao:=Hd (aD H W.out)
  have ap:=Hd (aD H Z.out)
  clear H x0 x1 x2 x3 V y1 R U
  go_wp2_with fail
  go_ret
  exact ⟨aO HR.out,HD.out⟩
 have d1:decide ((I:Int)<1)=false:=decide_eq_false (by omega)
 have cM:decide (I<1)=false:=decide_eq_false c1
 by_cases c2:ik d<(I:Int)
 ·have HR:Hid (¬dB d src Q r):=fun h=>by
   have h1:=h.len.2
   rw [HN.out.1] at h1
   unfold ik at c2
   rw [if_pos h.dev] at c2
   omega
  have d2:decide (ik d<(I:Int))=true:=decide_eq_true c2
  clear c2
  go_enter Tryz.func132,Tryz.ntmps132
  go_upto_region 1 with fail
  generalize (w.alloc (.cells (dv d) 36)).alloc (.cells #[.slice NA I nc,.slice FA fn fc] 114)=J at *
  have B:=W.out
  have g:=Z.out
  obtain ⟨x0,x1,x2,x3⟩:=cs4 B
  obtain ⟨V,y1⟩:=cs2 g
  have R:=aC B
  have U:=aC g
  clear B g
  have ak:=Hd (fun (x:Sub J)=>gU d x.v)
  have G:=fun (x:Sub J)=>jK d src x.v
  skip
  have af:=Hd G
  clear G
  have u:=aY J
  have K:=aP J
  refine wpB J ?_
  repeat (go_big_quiet_step ((first
   | (go_at_call 220;with_reducible exact aN (ak.out _))
   | (go_at_call 221;with_reducible exact aN (af.out _)))))
  refine wpQuiet_nil ?_
  rintro _ ⟨⟨w5,H⟩,rfl⟩
  clear u K
  have HD:=Hd (aA aq.out H)
  have ao:=Hd (aD H W.out)
  have ap:=Hd (aD H Z.out)
  clear H x0 x1 x2 x3 V y1 R U
  go_wp2_with fail
  go_ret
  exact ⟨aO HR.out,HD.out⟩
 have bs:dR d=true:=by
  cases hd:dR d with
  | true=>rfl
  | false=>unfold ik at c2;rw [hd] at c2;simp at c2;omega
 have cG:=Hd bs
 have b0:Hid ((I:Int)<=gH d):=by show _<=_;unfold ik at c2;rw [if_pos bs] at c2;omega
 have cL:I<=828:=by have h1:=b0.out;have h2:=fZ bs;omega
 have d2:decide (ik d<(I:Int))=false:=decide_eq_false c2
 clear c2 bs
 by_cases c3:fn=I
 ·subst c3
  have d3:((fn:Int) != (fn:Int))=false:=by simp
  obtain ⟨I,rfl⟩:∃x,x=fn:=⟨fn,rfl⟩
  obtain ⟨bn,al,rfl,bc,ci⟩:=HN.out.2 (by omega)
  obtain ⟨bf,ar,rfl,bv,bV⟩:=bE.out.2 (by omega)
  obtain ⟨bM,b3⟩:=hd2 ci bV
  clear ci bV
  have a4:=(aq.out.cell (p:=⟨bn,al+0,none⟩) bc).trans (bM.out 0 (by omega))
  have a9:=(aq.out.cell (p:=⟨bf,ar+0,none⟩) bv).trans (b3.out 0 (by omega))
  rw [Nat.add_zero] at a4 a9
  have aU:=aK aq.out bc
  have aX:=aK aq.out bv
  obtain ⟨n0,bN⟩:∃x,r.nodes[0]?.getD 0=x:=⟨_,rfl⟩
  obtain ⟨f0,bH⟩:∃x,r.from_[0]?.getD 0=x:=⟨_,rfl⟩
  rw [bN] at a4
  rw [bH] at a9
  obtain ⟨bT,b9⟩:=hd2 bN bH
  have cS:(0:Int)<(I:Int):=by omega
  clear bN bH
  by_cases c4:n0=src
  ·have d4:(n0 != src)=false:=by simp [c4]
   cases ay:(bQ d src && (decide (src % aV d=5) || decide (src % aV d=6))) with
   | false =>
    have HR:Hid (¬dB d src Q r):=fun h=>by
     have h1:bQ d src=true:=by
      rw [←h.root.1,List.getElem?_eq_getElem (by rw [HN.out.1];omega)]
      exact h.node _ (List.getElem_mem _)
     have h2:=h.root.2.2
     rw [h1] at ay
     rcases h2 with h2|h2 <;> simp [h2] at ay
    have aZ:=Hd ay
    clear ay
    go_enter Tryz.func132,Tryz.ntmps132
    go_upto_region 1 with fail
    generalize (w.alloc (.cells (dv d) 36)).alloc (.cells #[.slice (some ⟨bn,al,none⟩) I nc,.slice (some ⟨bf,ar,none⟩) I fc] 114)=J at *
    have B:=W.out
    have g:=Z.out
    obtain ⟨x0,x1,x2,x3⟩:=cs4 B
    obtain ⟨V,y1⟩:=cs2 g
    have R:=aC B
    have U:=aC g
    clear B g
    have ak:=Hd (fun (x:Sub J)=>gU d x.v)
    have G:=fun (x:Sub J)=>jK d src x.v
    rw [show (bQ d src && (decide (src % aV d=5) || decide (src % aV d=6)))=false from aZ.out] at G
    have af:=Hd G
    clear G
    have u:=aY J
    have K:=aP J
    refine wpB J ?_
    repeat (go_big_quiet_step ((first
     | (go_at_call 220;with_reducible exact aN (ak.out _))
     | (go_at_call 221;with_reducible exact aN (af.out _)))))
    refine wpQuiet_nil ?_
    rintro _ ⟨⟨w5,H⟩,rfl⟩
    clear u K
    have HD:=Hd (aA aq.out H)
    have ao:=Hd (aD H W.out)
    have ap:=Hd (aD H Z.out)
    clear H x0 x1 x2 x3 V y1 R U a4 a9 aU aX
    go_wp2_with fail
    go_ret
    exact ⟨aO HR.out,HD.out⟩
   | true =>
    have aZ:=Hd ay
    by_cases c6:f0=0
    ·have d6:(f0 != 0)=false:=by simp [c6]
     have bJ:Hid (r.nodes[0]?.getD 0=src/\r.from_[0]?.getD 0=0/\(src % aV d=5∨src % aV d=6)):=⟨by rw [bT.out,c4],by rw [b9.out,c6],by simp at ay;exact ay.2⟩
     clear ay c4 c6
     go_enter Tryz.func132,Tryz.ntmps132
     go_upto_region 1 with fail
     generalize (w.alloc (.cells (dv d) 36)).alloc (.cells #[.slice (some ⟨bn,al,none⟩) I nc,.slice (some ⟨bf,ar,none⟩) I fc] 114)=J at *
     have B:=W.out
     have g:=Z.out
     obtain ⟨x0,x1,x2,x3⟩:=cs4 B
     obtain ⟨V,y1⟩:=cs2 g
     have R:=aC B
     have U:=aC g
     clear B g
     have ak:=Hd (fun (x:Sub J)=>gU d x.v)
     have G:=fun (x:Sub J)=>jK d src x.v
     rw [show (bQ d src && (decide (src % aV d=5) || decide (src % aV d=6)))=true from aZ.out] at G
     have af:=Hd G
     clear G
     have u:=aY J
     have K:=aP J
     refine wpB J ?_
     repeat (go_big_quiet_step ((first
      | (go_at_call 220;with_reducible exact aN (ak.out _))
      | (go_at_call 221;with_reducible exact aN (af.out _)))))
     refine wpQuiet_nil ?_
     rintro wq ⟨⟨w5,H⟩,hw⟩
     replace hw:wq=w5:=hw
     subst hw
     clear u K
     have HD:=Hd (aA aq.out H)
     have ao:=Hd (aD H W.out)
     have ap:=Hd (aD H Z.out)
     clear H x0 x1 x2 x3 V y1 R U a4 a9 aU aX
     have cN:∀(t:TypeId) (w:World),(Instr.makeMap t none).run Tryz.prog w = .ok (.map (some w.heap.size)) (w.alloc (.map #[] 0)):=fun t w=>run_makeMap t w
     have bG:=Hd ((aJ.refl wq).pushSet)
     have B:=aD bG.out.bel ao.out
     have g:=aD bG.out.bel ap.out
     have x0:=aF (k:=0) B rfl
     have V:=aF (k:=0) g rfl
     have R:=aC B
     have U:=aC g
     clear B g
     go_wp2_with fail
     clear x0 V R U cN
     go_loopw [60] (fun i wr=>∃k:Nat,k<=I/\i = .int .i64 (k:Int)/\aJ wq wr [sj wq.heap.size (r.nodes.take k)]/\(∀j,j<k→bQ d (r.nodes[j]?.getD 0)=true/\(0<j→(0<=r.from_[j]?.getD 0/\r.from_[j]?.getD 0<(j:Int))/\r.nodes[(r.from_[j]?.getD 0).toNat]?.getD 0∈fe d (r.nodes[j]?.getD 0))/\(r.nodes[j]?.getD 0 % aV d<5→r.nodes[j]?.getD 0∈Q))/\(r.nodes.take k).Nodup) (fun i _=>I - (intOf i).toNat)
     ·exact ⟨0,by omega,rfl,bG.out,fun j hj=>by omega,by simp⟩
     obtain ⟨k,hk,rfl,hs,bC,bX⟩:=hrel
     obtain ⟨HS,aw,a0⟩:=hd3 hs bC bX
     have aE:=Hd (aA HD.out hs.bel)
     have b8:=Hd (aD hs.bel ao.out)
     have ca:=Hd (aD hs.bel ap.out)
     clear hs bC bX
     by_cases bO:k<I
     ·have cv:=dT (by omega:k<I)
      have aG:k<r.nodes.length:=by rw [HN.out.1];exact bO
      have cn:=(aE.out.cell (p:=⟨bn,al+k,none⟩) bc).trans (bM.out k bO)
      have cU:=aK aE.out bc
      have av:=Hd (bU (z:=0) aG)
      have b4:dB d src Q r→bQ d (r.nodes[k]?.getD 0)=true/\r.nodes[k]?.getD 0∉r.nodes.take k/\(0<k→(0<=r.from_[k]?.getD 0/\r.from_[k]?.getD 0<(k:Int))/\r.nodes[(r.from_[k]?.getD 0).toNat]?.getD 0∈fe d (r.nodes[k]?.getD 0))/\(r.nodes[k]?.getD 0 % aV d<5→r.nodes[k]?.getD 0∈Q):=fun h=>by
       refine ⟨?_,?_,fun h0=>h.step k h0 aG,?_⟩
       ·rw [List.getElem?_eq_getElem aG];exact h.node _ (List.getElem_mem aG)
       ·have h1:=h.once
        rw [←List.take_append_drop (k+1) r.nodes,av.out] at h1
        exact (dZ.1 (List.nodup_append.1 h1).1).2
       rw [List.getElem?_eq_getElem aG];exact h.pins _ (List.getElem_mem aG)
      have hg:bQ d (r.nodes[k]?.getD 0)=true/\(0<k→(0<=r.from_[k]?.getD 0/\r.from_[k]?.getD 0<(k:Int))/\r.nodes[(r.from_[k]?.getD 0).toNat]?.getD 0∈fe d (r.nodes[k]?.getD 0))/\(r.nodes[k]?.getD 0 % aV d<5→r.nodes[k]?.getD 0∈Q)→∀j,j<k+1→bQ d (r.nodes[j]?.getD 0)=true/\(0<j→(0<=r.from_[j]?.getD 0/\r.from_[j]?.getD 0<(j:Int))/\r.nodes[(r.from_[j]?.getD 0).toNat]?.getD 0∈fe d (r.nodes[j]?.getD 0))/\(r.nodes[j]?.getD 0 % aV d<5→r.nodes[j]?.getD 0∈Q):=fun h=>bW aw.out h
      obtain ⟨D,HG⟩:=hd2 b4 hg
      have db:Hid (∀j,j<k→j<I):=fun j hj=>by omega
      clear b4 hg aG
      obtain ⟨n,hn⟩:∃n,r.nodes[k]?.getD 0=n:=⟨_,rfl⟩
      rw [hn] at cn av D HG
      obtain ⟨i0,i1⟩:=ib (by omega:k<I)
      clear hn
      have B:=b8.out
      have g:=ca.out
      obtain ⟨x0,x1,x2,x3⟩:=cs4 B
      obtain ⟨V,y1⟩:=cs2 g
      have R:=aC B
      have U:=aC g
      clear B g
      go_wp2_with fail
      refine (fV d n _).mono ?_
      cases bd:bQ d n with
      | false =>
       have HR:Hid (¬dB d src Q r):=fun h=>by have:=(D.out h).1;rw [this] at bd;cases bd
       rintro _ w2 ⟨rfl,b2⟩
       have bP:=Hd (aA aE.out b2)
       clear b2 cn HG D bd x0 x1 x2 x3 V y1 R U
       go_wp2_with fail
       go_ret
       exact ⟨aO HR.out,bP.out⟩
      | true =>
       have bt:=Hd (EX bd)
       rintro _ w2 ⟨rfl,b2⟩
       have cd:=Hd (HS.out.below b2)
       have bP:=Hd (aA aE.out b2)
       have cV:=Hd (aD b2 b8.out)
       have dr:=Hd (aD b2 ca.out)
       have a6:=Hd bd
       have a5:=cd.out.look 0 rfl bt.out
       clear b2 cn bd x0 x1 x2 x3 V y1 R U
       by_cases hm:n∈r.nodes.take k
       ·have HR:Hid (¬dB d src Q r):=fun h=>(D.out h).2.1 hm
        rw [decide_eq_true hm] at a5
        clear HG D hm
        go_wp2_with fail
        go_ret
        exact ⟨aO HR.out,bP.out⟩
       rw [decide_eq_false hm] at a5
       have HM:=Hd hm
       clear hm
       go_wp2_with (at_mapUpdate;refine rE rfl _ _ _ rfl _ cd.out 0 wq.heap.size (r.nodes.take k) rfl rfl (by rw [List.length_take];omega) n rfl rfl bt.out ?_;intro w3 S3 cx;have a3:=Hd S3;clear S3 cx)
       clear a5
       dsimp only [Act.put]
       have B:=aD a3.out.bel ao.out
       have g:=aD a3.out.bel ap.out
       obtain ⟨x0,x1,x2,x3⟩:=cs4 B
       obtain ⟨V,y1⟩:=cs2 g
       have R:=aC B
       have U:=aC g
       clear B g
       by_cases b7:k=0
       ·have am:Hid (0<k→(0<=r.from_[k]?.getD 0/\r.from_[k]?.getD 0<(k:Int))/\r.nodes[(r.from_[k]?.getD 0).toNat]?.getD 0∈fe d n):=fun h=>by omega
        have dk:decide ((0:Int)<(k:Int))=false:=decide_eq_false (by omega)
        have cD:decide (0<k)=false:=decide_eq_false (by omega)
        go_upto_region 10 with fail
        have u:=aY w3
        have K:=aP w3
        refine wpB w3 ?_
        repeat (go_big_quiet_step ((fail)))
        refine wpQuiet_nil ?_
        rintro _ ⟨⟨w5,H⟩,rfl⟩
        clear u K
        have Y:=Hd (a3.out.below H)
        clear H x0 x1 x2 x3 V y1 R U
        have aH:=Hd (aA HD.out Y.out.bel)
        have B:=aD Y.out.bel ao.out
        have g:=aD Y.out.bel ap.out
        obtain ⟨x0,x1,x2,x3⟩:=cs4 B
        obtain ⟨V,y1⟩:=cs2 g
        have R:=aC B
        have U:=aC g
        clear B g
        go_wp2_with fail
        refine (uE d n _).mono ?_
        rw [a6.out,Bool.true_and]
        by_cases h5:n % aV d<5
        ·rw [decide_eq_true h5]
         rintro _ w6 ⟨rfl,b6⟩
         have aL:=Hd (Y.out.below b6)
         have bp:=Hd (aA aH.out b6)
         clear b6 x0 x1 x2 x3 V y1 R U
         go_wp2_with fail
         refine (nK KA kn kc Q n _ (bg.out.below bp.out) ch).mono ?_
         by_cases hq:n∈Q
         ·rw [decide_eq_true hq]
          have ax:=Hd (HG.out ⟨a6.out,am.out,fun _=>hq⟩)
          rintro _ w7 ⟨rfl,rfl⟩
          clear HG D hq h5
          go_wp2_with fail
          go_roundw
          ·exact ⟨k+1,by omega,by go_num,by rw [av.out];exact aL.out,ax.out,by rw [av.out,dZ];exact ⟨a0.out,HM.out⟩⟩
          simp [intOf];omega
         rw [decide_eq_false hq]
         have HR:Hid (¬dB d src Q r):=fun h=>hq ((D.out h).2.2.2 h5)
         rintro _ w7 ⟨rfl,rfl⟩
         clear HG D hq h5
         go_wp2_with fail
         go_ret
         exact ⟨aO HR.out,bp.out⟩
        rw [decide_eq_false h5]
        have ax:=Hd (HG.out ⟨a6.out,am.out,fun h=>absurd h h5⟩)
        rintro _ w6 ⟨rfl,b6⟩
        have aL:=Hd (Y.out.below b6)
        clear b6 x0 x1 x2 x3 V y1 R U HG D h5
        go_wp2_with fail
        go_roundw
        ·exact ⟨k+1,by omega,by go_num,by rw [av.out];exact aL.out,ax.out,by rw [av.out,dZ];exact ⟨a0.out,HM.out⟩⟩
        simp [intOf];omega
       have bL:0<k:=by omega
       have dk:decide ((0:Int)<(k:Int))=true:=decide_eq_true (by omega)
       have cD:decide (0<k)=true:=decide_eq_true bL
       have bu:=Hd (aA HD.out a3.out.bel)
       have cf:=(bu.out.cell (p:=⟨bf,ar+k,none⟩) bv).trans (b3.out k bO)
       have bj:=aK bu.out bv
       obtain ⟨f,hf⟩:∃f,r.from_[k]?.getD 0=f:=⟨_,rfl⟩
       rw [hf] at cf D HG
       have cX:=Hd hf
       clear hf
       have i3:(0:Int)<=(k:Int) - 1:=by omega
       cases hr:inR f 0 ((k:Int) - 1) with
       | false =>
        have HR:Hid (¬dB d src Q r):=fun h=>by
         have h2:=((D.out h).2.2.1 bL).1
         rw [aR.2 (by omega)] at hr
         cases hr
        have hI:=fun (x:Sub w3)=>aM f 0 ((k:Int) - 1) x.v
        rw [hr] at hI
        have HI:=Hd hI
        clear hr hI HG D b7
        go_upto_region 10 with fail
        have u:=aY w3
        have K:=aP w3
        refine wpB w3 ?_
        repeat (go_big_quiet_step ((first|(go_at_call 93;with_reducible exact aQ (HI.out _)))))
        refine wpQuiet_nil ?_
        rintro _ ⟨⟨w5,H⟩,rfl⟩
        clear u K
        have Y:=Hd (a3.out.below H)
        clear H x0 x1 x2 x3 V y1 R U
        have aH:=Hd (aA HD.out Y.out.bel)
        clear cf bj
        go_wp2_with fail
        go_ret
        exact ⟨aO HR.out,aH.out⟩
       | true =>
        have cC:=aR.1 hr
        obtain ⟨F,rfl⟩:∃F:Nat,f=(F:Int):=⟨f.toNat,by omega⟩
        have hF:F<k:=by omega
        have cy:=(bu.out.cell (p:=⟨bn,al+F,none⟩) bc).trans (bM.out F (by omega))
        have bA:=aK bu.out bc
        rw [Int.toNat_natCast] at D HG
        obtain ⟨y,g⟩:∃y,r.nodes[F]?.getD 0=y:=⟨_,rfl⟩
        rw [g] at cy D HG
        have di:=Hd g
        have hI:=fun (x:World)=>aM (F:Int) 0 ((k:Int) - 1) x
        rw [hr] at hI
        have cs:=Hd hI
        obtain ⟨dc,iF⟩:=ib (by omega:F<I)
        have cZ:(F:Int)<(k:Int):=by omega
        clear hr cC g b7 hI
        have e3:IntKind.i64.wrap ((k:Int) - 1)=(k:Int) - 1:=IntWalk.i64_in _ (by omega)
        have cg:=Hd (fun (x:World) (_:Below w3.heap.size w3 x)=>sN d n x)
        have H:=(Below.refl w3.heap.size w3).drew
        have bl:Hid (∀w',Below w3.heap.size w3 w'→(KD w' w.heap.size d (w'.cell? ⟨w.heap.size+1,0,none⟩=some (.slice (some ⟨bn,al,none⟩) I nc)/\w'.cell? ⟨w.heap.size+1,1,none⟩=some (.slice (some ⟨bf,ar,none⟩) I fc)/\w'.cell? ⟨bf,ar+k,none⟩=some (.int .i64 (F:Int))/\w'.cell? ⟨bn,al+F,none⟩=some (.int .i64 y)))):=fun v hv=>⟨(hv.cell (p:=⟨w.heap.size,0,none⟩) R).trans x0,(hv.cell (p:=⟨w.heap.size,1,none⟩) R).trans x1,(hv.cell (p:=⟨w.heap.size,2,none⟩) R).trans x2,(hv.cell (p:=⟨w.heap.size,3,none⟩) R).trans x3,(hv.cell (p:=⟨w.heap.size+1,0,none⟩) U).trans V,(hv.cell (p:=⟨w.heap.size+1,1,none⟩) U).trans y1,(hv.cell (p:=⟨bf,ar+k,none⟩) bj).trans cf,(hv.cell (p:=⟨bn,al+F,none⟩) bA).trans cy⟩
        obtain ⟨bb,bF⟩:∃b,decide (y∈fe d n)=b:=⟨_,rfl⟩
        have cj:=Hd bF
        have ct:=Hd (fun (A:Option Addr) (m c:Nat) (v:World) (h:dP v A m (fe d n)) (hm:m<=1048576)=>(by have h2:=nK A m c (fe d n) y v h hm;rwa [bF] at h2:Calls Tryz.prog 129 #[.slice A m c,.int .i64 y] v fun e w'=>e = .returned (.bool bb)/\v=w'))
        clear bF
        go_upto_region 10 with fail
        go_region_held3 (fun w'=>KD w' w.heap.size d (w'.cell? ⟨w.heap.size+1,0,none⟩=some (.slice (some ⟨bn,al,none⟩) I nc)/\w'.cell? ⟨w.heap.size+1,1,none⟩=some (.slice (some ⟨bf,ar,none⟩) I fc)/\w'.cell? ⟨bf,ar+k,none⟩=some (.int .i64 (F:Int))/\w'.cell? ⟨bn,al+F,none⟩=some (.int .i64 y)))
         (first|exact bl.out _ H)
         ((first
          | (go_at_call 93;(with_reducible refine (cs.out _).mono ?_);rintro _ wi ⟨rfl,rfl⟩)
          | (go_at_call 149;(with_reducible refine (cg.out _ H).mono ?_);rintro e5 w5 ⟨A5,n5,c5,rfl,o5,b5⟩;have O5:=Hd o5.ints;have cI:n5<=1048576:=(by have h5:=o5.len;have h6:=lm d n;omega);replace H:=aA H b5;clear b5 o5)
          | (go_at_call 129;(with_reducible refine (ct.out A5 n5 c5 _ O5.out cI).mono ?_);rintro _ wi ⟨rfl,rfl⟩)))
        have Y:=Hd (a3.out.below H)
        clear H x0 x1 x2 x3 V y1 R U cf bj cy bA bl e3
        cases bb with
        | true =>
         have cH:=of_decide_eq_true cj.out
         have am:Hid (0<k→(0<=(F:Int)/\(F:Int)<(k:Int))/\y∈fe d n):=fun _=>⟨⟨by omega,by omega⟩,cH⟩
         have aH:=Hd (aA HD.out Y.out.bel)
         have B:=aD Y.out.bel ao.out
         have g:=aD Y.out.bel ap.out
         obtain ⟨x0,x1,x2,x3⟩:=cs4 B
         obtain ⟨V,y1⟩:=cs2 g
         have R:=aC B
         have U:=aC g
         clear B g
         go_wp2_with fail
         refine (uE d n _).mono ?_
         rw [a6.out,Bool.true_and]
         by_cases h5:n % aV d<5
         ·rw [decide_eq_true h5]
          rintro _ w6 ⟨rfl,b6⟩
          have aL:=Hd (Y.out.below b6)
          have bp:=Hd (aA aH.out b6)
          clear b6 x0 x1 x2 x3 V y1 R U
          go_wp2_with fail
          refine (nK KA kn kc Q n _ (bg.out.below bp.out) ch).mono ?_
          by_cases hq:n∈Q
          ·rw [decide_eq_true hq]
           have ax:=Hd (HG.out ⟨a6.out,am.out,fun _=>hq⟩)
           rintro _ w7 ⟨rfl,rfl⟩
           clear HG D hq h5
           go_wp2_with fail
           go_roundw
           ·exact ⟨k+1,by omega,by go_num,by rw [av.out];exact aL.out,ax.out,by rw [av.out,dZ];exact ⟨a0.out,HM.out⟩⟩
           simp [intOf];omega
          rw [decide_eq_false hq]
          have HR:Hid (¬dB d src Q r):=fun h=>hq ((D.out h).2.2.2 h5)
          rintro _ w7 ⟨rfl,rfl⟩
          clear HG D hq h5
          go_wp2_with fail
          go_ret
          exact ⟨aO HR.out,bp.out⟩
         ·rw [decide_eq_false h5]
          have ax:=Hd (HG.out ⟨a6.out,am.out,fun h=>absurd h h5⟩)
          rintro _ w6 ⟨rfl,b6⟩
          have aL:=Hd (Y.out.below b6)
          clear b6 x0 x1 x2 x3 V y1 R U HG D h5
          go_wp2_with fail
          go_roundw
          ·exact ⟨k+1,by omega,by go_num,by rw [av.out];exact aL.out,ax.out,by rw [av.out,dZ];exact ⟨a0.out,HM.out⟩⟩
          ·simp [intOf];omega
        | false =>
         have HR:Hid (¬dB d src Q r):=fun h=>of_decide_eq_false cj.out ((D.out h).2.2.1 bL).2
         clear HG D
         have aH:=Hd (aA HD.out Y.out.bel)
         go_wp2_with fail
         go_ret
         exact ⟨aO HR.out,aH.out⟩
     have bq:k=I:=by omega
     have cv:=dF (by omega:I<=k)
     have cE:Hid (r.nodes.take k=r.nodes):=by show _=_;rw [bq];exact List.take_of_length_le (by rw [HN.out.1];exact Nat.le_refl _)
     rw [cE.out] at HS a0
     rw [bq] at aw
     clear bq
     obtain ⟨wo,rfl⟩:∃x,x=wr:=⟨wr,rfl⟩
     go_wp2_with fail
     go_loopw [117] (fun i wr=>∃q:Nat,q<=kn/\i = .int .i64 (q:Int)/\wo=wr/\∀j,j<q→Q[j]?.getD 0∈r.nodes) (fun i _=>kn - (intOf i).toNat)
     ·exact ⟨0,by omega,rfl,rfl,fun j hj=>by omega⟩
     obtain ⟨q,hq,rfl,rfl,bY⟩:=hrel
     have bI:=Hd bY
     clear bY
     by_cases bD:q<kn
     ·have cq:=dT (by omega:q<kn)
      have bo:q<Q.length:=by rw [bg.out.1];exact bD
      obtain ⟨bk,ok,cb,ce,cl⟩:=bg.out.2 (by omega)
      have cF:=Hd cb
      have ck:=(aE.out.cell (p:=⟨bk,ok+q,none⟩) ce).trans (cl q bD)
      have cY:=aK aE.out ce
      have bm:=bt.out _ (List.getElem_mem bo)
      rw [show Q[q]=Q[q]?.getD 0 by rw [List.getElem?_eq_getElem bo];rfl] at bm
      have HG:Hid (Q[q]?.getD 0∈r.nodes→∀j,j<q+1→Q[j]?.getD 0∈r.nodes):=fun h=>bW bI.out h
      have D:Hid (Q[q]?.getD 0∉r.nodes→¬dB d src Q r):=fun h h'=>h (by rw [List.getElem?_eq_getElem bo];exact h'.sinks _ (List.getElem_mem bo))
      clear cl bo cb
      obtain rfl:=cF.out
      generalize Q[q]?.getD 0=s at *
      have a5:=HS.out.look 0 rfl bm
      obtain ⟨i0,i1⟩:=ib (by omega:q<kn)
      clear bm
      by_cases hm:s∈r.nodes
      ·have ax:=Hd (HG.out hm)
       rw [decide_eq_true hm] at a5
       clear HG D hm
       go_wp2_with fail
       go_roundw
       ·exact ⟨q+1,by omega,by go_num,by first|rfl|trivial,ax.out⟩
       simp [intOf];omega
      have HR:=Hd (D.out hm)
      rw [decide_eq_false hm] at a5
      clear HG D hm
      go_wp2_with fail
      go_ret
      exact ⟨aO HR.out,aE.out⟩
     have bZ:q=kn:=by omega
     have cq:=dF (by omega:kn<=q)
     have HR:Hid (dB d src Q r):=by
      refine ⟨⟨by rw [HN.out.1];omega,by rw [HN.out.1];exact b0.out⟩,cG.out,by rw [bE.out.1,HN.out.1],fun n hn=>?_,a0.out,bJ.out,fun i h0 hi=>(aw.out i (by rw [←HN.out.1];exact hi)).2.1 h0,fun n hn h5=>?_,fun n hn=>?_⟩
      ·obtain ⟨j,hj,rfl⟩:=List.getElem_of_mem hn
       have h:=(aw.out j (by rw [←HN.out.1];exact hj)).1
       rwa [List.getElem?_eq_getElem hj] at h
      ·obtain ⟨j,hj,rfl⟩:=List.getElem_of_mem hn
       have h:=(aw.out j (by rw [←HN.out.1];exact hj)).2.2
       rw [List.getElem?_eq_getElem hj] at h
       exact h h5
      obtain ⟨j,hj,rfl⟩:=List.getElem_of_mem hn
      have h:=bI.out j (by rw [bZ,←bg.out.1];exact hj)
      rwa [List.getElem?_eq_getElem hj] at h
     clear aw bI bZ
     go_wp2_with fail
     go_ret
     exact ⟨dU HR.out,aE.out⟩
    have HR:Hid (¬dB d src Q r):=fun h=>c6 (by rw [←b9.out];exact h.root.2.1)
    have d6:(f0 != 0)=true:=by simp [c6]
    clear ay c6
    go_enter Tryz.func132,Tryz.ntmps132
    go_upto_region 1 with fail
    generalize (w.alloc (.cells (dv d) 36)).alloc (.cells #[.slice (some ⟨bn,al,none⟩) I nc,.slice (some ⟨bf,ar,none⟩) I fc] 114)=J at *
    have B:=W.out
    have g:=Z.out
    obtain ⟨x0,x1,x2,x3⟩:=cs4 B
    obtain ⟨V,y1⟩:=cs2 g
    have R:=aC B
    have U:=aC g
    clear B g
    have ak:=Hd (fun (x:Sub J)=>gU d x.v)
    have G:=fun (x:Sub J)=>jK d src x.v
    rw [show (bQ d src && (decide (src % aV d=5) || decide (src % aV d=6)))=true from aZ.out] at G
    have af:=Hd G
    clear G
    have u:=aY J
    have K:=aP J
    refine wpB J ?_
    repeat (go_big_quiet_step ((first
     | (go_at_call 220;with_reducible exact aN (ak.out _))
     | (go_at_call 221;with_reducible exact aN (af.out _)))))
    refine wpQuiet_nil ?_
    rintro _ ⟨⟨w5,H⟩,rfl⟩
    clear u K
    have HD:=Hd (aA aq.out H)
    have ao:=Hd (aD H W.out)
    have ap:=Hd (aD H Z.out)
    clear H x0 x1 x2 x3 V y1 R U a4 a9 aU aX
    go_wp2_with fail
    go_ret
    exact ⟨aO HR.out,HD.out⟩
  have HR:Hid (¬dB d src Q r):=fun h=>c4 (by rw [←bT.out];exact h.root.1)
  have d4:(n0 != src)=true:=by simp [c4]
  clear c4
  go_enter Tryz.func132,Tryz.ntmps132
  go_upto_region 1 with fail
  generalize (w.alloc (.cells (dv d) 36)).alloc (.cells #[.slice (some ⟨bn,al,none⟩) I nc,.slice (some ⟨bf,ar,none⟩) I fc] 114)=J at *
  have B:=W.out
  have g:=Z.out
  obtain ⟨x0,x1,x2,x3⟩:=cs4 B
  obtain ⟨V,y1⟩:=cs2 g
  have R:=aC B
  have U:=aC g
  clear B g
  have ak:=Hd (fun (x:Sub J)=>gU d x.v)
  have G:=fun (x:Sub J)=>jK d src x.v
  skip
  have af:=Hd G
  clear G
  have u:=aY J
  have K:=aP J
  refine wpB J ?_
  repeat (go_big_quiet_step ((first
   | (go_at_call 220;with_reducible exact aN (ak.out _))
   | (go_at_call 221;with_reducible exact aN (af.out _)))))
  refine wpQuiet_nil ?_
  rintro _ ⟨⟨w5,H⟩,rfl⟩
  clear u K
  have HD:=Hd (aA aq.out H)
  have ao:=Hd (aD H W.out)
  have ap:=Hd (aD H Z.out)
  clear H x0 x1 x2 x3 V y1 R U a4 a9 aU aX
  go_wp2_with fail
  go_ret
  exact ⟨aO HR.out,HD.out⟩
 have HR:Hid (¬dB d src Q r):=fun h=>c3 (by rw [←bE.out.1,←HN.out.1];exact h.same)
 have d3:((fn:Int) != (I:Int))=true:=by simp;omega
 clear c3
 go_enter Tryz.func132,Tryz.ntmps132
 go_upto_region 1 with fail
 generalize (w.alloc (.cells (dv d) 36)).alloc (.cells #[.slice NA I nc,.slice FA fn fc] 114)=J at *
 have B:=W.out
 have g:=Z.out
 obtain ⟨x0,x1,x2,x3⟩:=cs4 B
 obtain ⟨V,y1⟩:=cs2 g
 have R:=aC B
 have U:=aC g
 clear B g
 have ak:=Hd (fun (x:Sub J)=>gU d x.v)
 have G:=fun (x:Sub J)=>jK d src x.v
 skip
 have af:=Hd G
 clear G
 have u:=aY J
 have K:=aP J
 refine wpB J ?_
 repeat (go_big_quiet_step ((first
  | (go_at_call 220;with_reducible exact aN (ak.out _))
  | (go_at_call 221;with_reducible exact aN (af.out _)))))
 refine wpQuiet_nil ?_
 rintro _ ⟨⟨w5,H⟩,rfl⟩
 clear u K
 have HD:=Hd (aA aq.out H)
 have ao:=Hd (aD H W.out)
 have ap:=Hd (aD H Z.out)
 clear H x0 x1 x2 x3 V y1 R U
 go_wp2_with fail
 go_ret
 exact ⟨aO HR.out,HD.out⟩
end Go.Proofs.YtofihjoanjkdmaaGreat
