/- Placements and connections in the program: valid ones (printed by mkplc.py). -/
import Derived.Maps.OwnOps
import Derived.Maps.OwnSet
import Derived.Test.YtofihjoanjkdmaaGreatLayF7
import Derived.Test.YtofihjoanjkdmaaGreatRtS
namespace Go.Proofs.YtofihjoanjkdmaaGreat
set_option maxHeartbeats 8000000
set_option maxRecDepth 100000
open Go.RowKit
def lh (d:Dev) (t:Int):Int:=if bB d t=true then bL d t else -1
theorem xD (d:Dev) (t:Int):0<=bL d t/\bL d t<=2:=by
 unfold bL
 split
 ·omega
 split <;> omega
theorem vO (k:Int):-1<=gG k/\gG k<=2:=by
 unfold gG
 split
 ·omega
 split
 ·omega
 split <;> omega
theorem zo {d:Dev} {t k:Int} (h:0<=k):lh d t=k↔bB d t=true/\bL d t=k:=by
 unfold lh
 split
 ·rename_i h1;exact ⟨fun h2=>⟨h1,h2⟩,fun h2=>h2.2⟩
 rename_i h1;exact ⟨fun h2=>by omega,fun h2=>absurd h2.1 h1⟩
theorem wJ (k:Int) (w:World) :
  Calls Tryz.prog 127 #[.int .i64 k] w fun e w'=>e = .returned (.int .i64 (gG k))/\w=w':=by
 by_cases h0:k=0
 ·subst h0
  go_enter Tryz.func127,Tryz.ntmps127
  go_wp2_with fail
  go_ret
  exact ⟨rfl,rfl⟩
 by_cases h1:k=1
 ·subst h1
  go_enter Tryz.func127,Tryz.ntmps127
  go_wp2_with fail
  go_ret
  exact ⟨rfl,rfl⟩
 by_cases h2:k=2
 ·subst h2
  go_enter Tryz.func127,Tryz.ntmps127
  go_wp2_with fail
  go_ret
  exact ⟨rfl,rfl⟩
 by_cases h3:k=3
 ·subst h3
  go_enter Tryz.func127,Tryz.ntmps127
  go_wp2_with fail
  go_ret
  exact ⟨rfl,rfl⟩
 have g:Hid (gG k=-1):=by show _=_;unfold gG;rw [if_neg (by omega),if_neg h2,if_neg h3]
 have z:(k==0)=false:=by simp [h0]
 have q:(k==1)=false:=by simp [h1]
 have j:(k==2)=false:=by simp [h2]
 have u:(k==3)=false:=by simp [h3]
 clear h0 h1 h2 h3
 go_enter Tryz.func127,Tryz.ntmps127
 go_wp2_with fail
 go_ret
 exact ⟨aL g.out.symm,rfl⟩
theorem qX (bs:List Blk) (BA:Option Addr) (bn bc:Nat) (w:World) (J:RdC w w.heap.size (aa bs) (.slice BA bn bc)) (hn:bn<=1048576) :
  Calls Tryz.prog 49 #[.slice BA bn bc] w fun e w'=>∃A c,e = .returned (.slice A bn c)/\Own w.heap.size w' A bn c (bs.map Blk.kind)/\Below w.heap.size w w':=by
 have B:=J.blkN
 obtain ⟨D,HB⟩:=hd2 B J
 clear J B
 go_enter Tryz.func49,Tryz.ntmps49
 go_wp2_with fail
 go_loopw [3,8] (fun v i wr=>∃(k:Nat) (A:Option Addr) (c:Nat),k<=bn/\i = .int .i64 (k:Int)/\v = .slice A k c/\aJ w wr [.cel (aH ((bs.take k).map Blk.kind)) (.slice A k c)]) (fun _ i _=>bn - (intOf i).toNat)
 ·exact ⟨0,none,0,by omega,rfl,rfl,(aJ.refl w).pushNil 3 1⟩
 obtain ⟨k,A1,K,hk,rfl,rfl,hs⟩:=hrel
 have G:=Hd hs
 clear hs
 by_cases U:k<bn
 ·have Y:=dT (by omega:k<bn)
  have u:k<bs.length:=by rw [D.out];exact U
  obtain ⟨W,Z,R,I,V,rfl,j,c0,c1,c2,r2⟩:=HB.out.blk (k:=k) u
  have g:=G.out.bel
  have af:=aK g j
  rw [←g.cell (p:=⟨W,Z+k * 3,none⟩) j] at c0
  rw [←g.cell (p:=⟨W,Z+k * 3+1,none⟩) j] at c1
  rw [←g.cell (p:=⟨W,Z+k * 3+2,none⟩) j] at c2
  have q:=Hd (show (bs.take (k+1)).map Blk.kind=(bs.take k).map Blk.kind++[(bs[k]?.getD Blk.zero).kind] from by rw [mr u,List.map_append];rfl)
  clear u g r2
  generalize bs[k]?.getD Blk.zero=b at *
  obtain ⟨kd,it,es⟩:=b
  simp only at c0 c1 q
  obtain ⟨i0,i1⟩:=ib (by omega:k<bn)
  have HA:=Hd (G.out.alloc (.cells #[.int .i64 kd,.int .i64 it,.slice R I V] 89))
  obtain ⟨y0,ly⟩:=wO (aI wr (.cells #[.int .i64 kd,.int .i64 it,.slice R I V] 89))
  go_upto_region 5 with fail
  generalize wr.alloc (.cells #[.int .i64 kd,.int .i64 it,.slice R I V] 89)=W5 at *
  go_wp2_with (at_builtin;refine gF rfl _ _ rfl _ (HA.out.alloc _) 0 A1 k K ((bs.take k).map Blk.kind) kd _ (0,0) rfl rfl rfl (aI _ _) (by omega) ?_;intro g9 ag w9 S9 Q;have H:=Hd S9;clear S9 Q)
  go_roundw
  ·exact ⟨k+1,_,_,by omega,by go_num,rfl,by rw [q.out];exact H.out⟩
  simp [intOf];omega
 have z:k=bn:=by omega
 have Y:=dF (by omega:bn<=k)
 have q:Hid (bs.take k=bs):=by show _=_;rw [z];exact List.take_of_length_le (by rw [D.out];exact Nat.le_refl _)
 rw [q.out] at G
 subst z
 go_wp2_with fail
 go_ret
 exact ⟨_,_,rfl,G.out.owned 0 rfl,G.out.bel⟩
theorem wK (d:Dev) (t:Int) (w:World) :
  Calls Tryz.prog 128 #[.agg (dv d),.int .i64 t] w fun e w'=>e = .returned (.int .i64 (lh d t))/\Below w.heap.size w w':=by
 have q:=Hd (aB (Below.refl w.heap.size w) (.cells (dv d) 36))
 have u:=Hd (aI w (.cells (dv d) 36))
 obtain ⟨G,B,z,D,H⟩:=cO (u.out)
 cases ht:bB d t with
 | false =>
  have I:Hid (lh d t=-1):=by show _=_;unfold lh;rw [ht];rfl
  have Q:=Hd ht
  clear ht
  go_enter Tryz.func128,Tryz.ntmps128
  go_upto_region 1 with fail
  generalize w.alloc (.cells (dv d) 36)=W at *
  go_wp2_with fail
  refine (rR d t _).mono ?_
  rw [Q.out]
  rintro _ Y ⟨rfl,j⟩
  have g:=Hd (aA q.out j)
  clear j G B z D H
  go_wp2_with fail
  go_ret
  exact ⟨aL I.out.symm,g.out⟩
 | true =>
  have I:Hid (lh d t=bL d t):=by show _=_;unfold lh;rw [if_pos ht]
  have Q:=Hd ht
  obtain ⟨K,h0,h1⟩:=aU.1 ht
  have h2:=fJ K
  have V:=Hd K
  have h3:t<=1099511627776:=by omega
  clear ht K h1 h2
  go_enter Tryz.func128,Tryz.ntmps128
  go_upto_region 1 with fail
  generalize w.alloc (.cells (dv d) 36)=W at *
  go_wp2_with fail
  refine (rR d t _).mono ?_
  rw [Q.out]
  rintro _ Y ⟨rfl,j⟩
  have g:=Hd (aA q.out j)
  have U:=aD j u.out
  clear j G B z D H
  obtain ⟨G,B,z,D,H⟩:=cO U
  clear U
  go_wp2_with fail
  refine (mV d t _ V.out h0 h3).mono ?_
  rintro _ Z ⟨rfl,R⟩
  have J:=Hd (aA g.out R)
  clear R G B z D H
  go_wp2_with fail
  go_ret
  exact ⟨aL I.out.symm,J.out⟩
theorem qY (d:Dev) (kinds place:List Int) (KA PA:Option Addr) (kn kc pn pc:Nat) (w:World) (hk:dP w KA kn kinds) (hp:dP w PA pn place) (a9:pn<=pc) (a6:pc<=1048576) :
  Calls Tryz.prog 48 #[.agg (dv d),.slice KA kn kc,.slice PA pn pc] w fun e w'=>e = .returned (.bool (tb (eG d kinds place)))/\Below w.heap.size w w':=by
 have ae:=Hd (aB (Below.refl w.heap.size w) (.cells (dv d) 36))
 have R:=Hd (aI w (.cells (dv d) 36))
 obtain ⟨HK,HP⟩:=hd2 hk hp
 clear hk hp
 cases H:dR d with
 | false =>
  have G:Hid (¬eG d kinds place):=fun h=>by rw [h.dev] at H;cases H
  have HD:=Hd H
  clear H
  go_enter Tryz.func48,Tryz.ntmps48
  go_upto_region 1 with fail
  generalize w.alloc (.cells (dv d) 36)=W0 at *
  obtain ⟨Y,V,U,W,Z⟩:=cO (R.out)
  go_wp2_with fail
  refine (fu d _).mono ?_
  rw [HD.out]
  rintro _ w1 ⟨rfl,J⟩
  have u:=Hd (aA ae.out J)
  clear J Y V U W Z
  go_wp2_with fail
  go_ret
  exact ⟨aO G.out,u.out⟩
 | true =>
  have ad:=Hd H
  clear H
  by_cases av:kn<=64
  ·have aN:decide ((64:Int)<(kn:Int))=false:=decide_eq_false (by omega)
   by_cases ah:pn=kn
   ·subst ah
    have dn:((pn:Int) != (pn:Int))=false:=by simp
    go_enter Tryz.func48,Tryz.ntmps48
    go_upto_region 1 with fail
    generalize w.alloc (.cells (dv d) 36)=W0 at *
    obtain ⟨Y,V,U,W,Z⟩:=cO (R.out)
    go_wp2_with fail
    refine (fu d _).mono ?_
    rw [ad.out]
    rintro _ w1 ⟨rfl,J⟩
    have u:=Hd (aA ae.out J)
    have aQ:=Hd (aD J R.out)
    clear J Y V U W Z
    go_wp2_with fail
    go_loopw [27] (fun i wr=>∃k:Nat,k<=pn/\i = .int .i64 (k:Int)/\Below w1.heap.size w1 wr/\(∀j,j<k→bB d (place[j]?.getD 0)=true/\bL d (place[j]?.getD 0)=gG (kinds[j]?.getD 0))/\(place.take k).Nodup) (fun i _=>pn - (intOf i).toNat)
    ·exact ⟨0,by omega,rfl,Below.refl _ _,fun j hj=>by omega,by simp⟩
    obtain ⟨k,hk,rfl,hb,ag⟩:=hrel
    obtain ⟨HB,g⟩:=hd2 hb ag
    have q:=Hd (aA u.out hb)
    clear hb ag
    by_cases af:k<pn
    ·have aR:=dT (by omega:k<pn)
     obtain ⟨bp,op,ax,ay,ar⟩:=HP.out.2 (by omega)
     obtain ⟨bk,ok,aH,aE,aw⟩:=HK.out.2 (by omega)
     obtain ⟨aU,aW⟩:=hd2 ax aH
     have cp:=(q.out.cell (p:=⟨bp,op+k,none⟩) ay).trans (ar k af)
     have ck:=(q.out.cell (p:=⟨bk,ok+k,none⟩) aE).trans (aw k af)
     have a7:=aK q.out ay
     have be:=aK q.out aE
     have aS:=Hd (HP.out.take (k:=k) (by omega))
     have aG:k<place.length:=by rw [HP.out.1];exact af
     have au:=Hd (bU (z:=0) aG)
     have az:¬(bB d (place[k]?.getD 0)=true/\bL d (place[k]?.getD 0)=gG (kinds[k]?.getD 0))→¬eG d kinds place:=fun h h'=>h (h'.tile k (by rw [HK.out.1];exact af))
     have B:=Hd az
     have aF:place[k]?.getD 0∈place.take k→¬eG d kinds place:=fun h h'=>by
      have h1:=h'.once
      rw [←List.take_append_drop (k+1) place,au.out] at h1
      exact (dZ.1 (List.nodup_append.1 h1).1).2 h
     have K:=Hd aF
     have hG:bB d (place[k]?.getD 0)=true/\bL d (place[k]?.getD 0)=gG (kinds[k]?.getD 0)→place[k]?.getD 0∉place.take k→(∀j,j<k+1→bB d (place[j]?.getD 0)=true/\bL d (place[j]?.getD 0)=gG (kinds[j]?.getD 0))/\(place.take (k+1)).Nodup:=fun h1 h2=>⟨bW g.out.1 h1,by rw [au.out,dZ];exact ⟨g.out.2,h2⟩⟩
     have HG:=Hd hG
     clear ar aw aG az aF hG ax aH
     obtain rfl:=aU.out
     obtain rfl:=aW.out
     generalize place[k]?.getD 0=t at *
     generalize kinds[k]?.getD 0=kd at *
     have aM:=vO kd
     obtain ⟨bt,Q⟩:∃b,gG kd=b:=⟨_,rfl⟩
     rw [Q] at aM B HG
     have aJ:=Hd Q
     clear Q
     obtain ⟨i0,i1⟩:=ib (by omega:k<pn)
     have i2:(k:Int)<=(pc:Int):=by omega
     obtain ⟨Y,V,U,W,Z⟩:=cO (aD HB.out aQ.out)
     go_wp2_with fail
     refine (wJ kd _).mono ?_
     rw [aJ.out]
     rintro _ w2 ⟨rfl,rfl⟩
     by_cases h0:bt<0
     ·have G:Hid (¬eG d kinds place):=B.out fun h=>by have:=xD d t;omega
      have d0:decide (bt<0)=true:=decide_eq_true h0
      clear HG B K
      go_wp2_with fail
      go_ret
      exact ⟨aO G.out,q.out⟩
     have d0:decide (bt<0)=false:=decide_eq_false h0
     go_wp2_with fail
     refine (wK d t _).mono ?_
     by_cases I:lh d t=bt
     ·have aT:=Hd ((zo (by omega)).1 I)
      rw [I]
      have dk:(bt != bt)=false:=by simp
      clear I
      rintro _ w3 ⟨rfl,b3⟩
      have aV:=Hd (aA HB.out b3)
      have D:=Hd (aA q.out b3)
      clear b3 Y V U W Z cp ck
      go_wp2_with fail
      refine (nK _ k pc _ t _ (aS.out.below D.out) (by omega)).mono ?_
      rintro _ w4 ⟨rfl,rfl⟩
      by_cases hm:t∈place.take k
      ·have G:Hid (¬eG d kinds place):=K.out hm
       rw [decide_eq_true hm]
       clear HG B K hm
       go_wp2_with fail
       go_ret
       exact ⟨aO G.out,D.out⟩
      have aY:=Hd (HG.out aT.out hm)
      rw [decide_eq_false hm]
      clear HG B K hm
      go_wp2_with fail
      go_roundw
      ·exact ⟨k+1,by omega,by go_num,aV.out,aY.out⟩
      simp [intOf];omega
     have G:Hid (¬eG d kinds place):=B.out fun h=>I ((zo (by omega)).2 h)
     have dk:(lh d t != bt)=true:=by simp [I]
     clear HG B K I
     rintro _ w3 ⟨rfl,b3⟩
     have D:=Hd (aA q.out b3)
     clear b3 Y V U W Z cp ck
     go_wp2_with fail
     go_ret
     exact ⟨aO G.out,D.out⟩
    have ai:k=pn:=by omega
    have aR:=dF (by omega:pn<=k)
    have G:Hid (eG d kinds place):=⟨ad.out,by rw [HK.out.1];exact av,by rw [HP.out.1,HK.out.1],fun j hj=>g.out.1 j (by rw [ai,←HK.out.1];exact hj),by
     have h:=g.out.2
     rwa [ai,List.take_of_length_le (by rw [HP.out.1];exact Nat.le_refl _)] at h⟩
    clear g ai
    go_wp2_with fail
    go_ret
    exact ⟨dU G.out,q.out⟩
   have G:Hid (¬eG d kinds place):=fun h=>ah (by rw [←HP.out.1,←HK.out.1];exact h.same)
   have dn:((pn:Int) != (kn:Int))=true:=by simp;omega
   clear ah
   go_enter Tryz.func48,Tryz.ntmps48
   go_upto_region 1 with fail
   generalize w.alloc (.cells (dv d) 36)=W0 at *
   obtain ⟨Y,V,U,W,Z⟩:=cO (R.out)
   go_wp2_with fail
   refine (fu d _).mono ?_
   rw [ad.out]
   rintro _ w1 ⟨rfl,J⟩
   have u:=Hd (aA ae.out J)
   clear J Y V U W Z
   go_wp2_with fail
   go_ret
   exact ⟨aO G.out,u.out⟩
  have G:Hid (¬eG d kinds place):=fun h=>av (by rw [←HK.out.1];exact h.len)
  have aN:decide ((64:Int)<(kn:Int))=true:=decide_eq_true (by omega)
  go_enter Tryz.func48,Tryz.ntmps48
  go_upto_region 1 with fail
  generalize w.alloc (.cells (dv d) 36)=W0 at *
  obtain ⟨Y,V,U,W,Z⟩:=cO (R.out)
  go_wp2_with fail
  refine (fu d _).mono ?_
  rw [ad.out]
  rintro _ w1 ⟨rfl,J⟩
  have u:=Hd (aA ae.out J)
  clear J Y V U W Z
  go_wp2_with fail
  go_ret
  exact ⟨aO G.out,u.out⟩
theorem xE (n a b:Int) (w:World) (hn:0<=n/\n<=64) :
  Calls Tryz.prog 218 #[.int .i64 n,.agg #[.int .i64 a,.int .i64 b]] w fun e w'=>e = .returned (.bool (tb (gJ n ⟨a,b⟩)))/\Below w.heap.size w w':=by
 have g:=Hd (aB (Below.refl w.heap.size w) (.cells #[.int .i64 a,.int .i64 b] 100))
 have u:Hid (gJ n ⟨a,b⟩↔(0<=a/\a<n)/\0<=b/\b<=4):=Iff.rfl
 cases hr:inR a 0 (n - 1) with
 | false =>
  have q:Hid (¬gJ n ⟨a,b⟩):=fun h=>by
   have h2:=(u.out.1 h).1
   rw [aR.2 (by omega)] at hr
   cases hr
  have j:=Hd hr
  clear hr
  go_enter Tryz.func218,Tryz.ntmps218
  go_wp2_with fail
  refine (aM a 0 (n - 1) _).mono ?_
  rw [j.out]
  rintro _ w' ⟨rfl,rfl⟩
  go_wp2_with fail
  go_ret
  exact ⟨aO q.out,g.out⟩
 | true =>
  have z:=aR.1 hr
  have j:=Hd hr
  have q:Hid (inR b 0 4=tb (gJ n ⟨a,b⟩)):=EH (by rw [aR,u.out];omega)
  clear hr z
  go_enter Tryz.func218,Tryz.ntmps218
  go_wp2_with fail
  refine (aM a 0 (n - 1) _).mono ?_
  rw [j.out]
  rintro _ w' ⟨rfl,rfl⟩
  go_wp2_with fail
  refine (aM b 0 4 _).mono ?_
  rintro _ w' ⟨rfl,rfl⟩
  go_wp2_with fail
  go_ret
  exact ⟨dC q.out,g.out⟩
theorem qZ (n:Int) (cs:List Cn) (CA:Option Addr) (cn cc:Nat) (w:World) (hC:RdC w w.heap.size (ah cs) (.slice CA cn cc)) (aq:∀c∈cs,c.sinks.length<=1048576) :
  Calls Tryz.prog 130 #[.int .i64 n,.slice CA cn cc] w fun e w'=>e = .returned (.bool (tb (jJ n cs)))/\Below w.heap.size w w':=by
 have V:=hC.cnN
 obtain ⟨ad,HC,aU⟩:=hd3 V hC aq
 clear hC aq
 cases hr:inR n 0 64 with
 | false =>
  have I:Hid (¬jJ n cs):=fun h=>by rw [aR.2 h.blocks] at hr;cases hr
  have H1:=Hd hr
  clear hr
  go_enter Tryz.func130,Tryz.ntmps130
  go_wp2_with fail
  refine (aM n 0 64 _).mono ?_
  rw [H1.out]
  rintro _ w' ⟨rfl,rfl⟩
  go_wp2_with fail
  go_ret
  exact ⟨aO I.out,Below.refl _ _⟩
 | true =>
  have hn:=aR.1 hr
  have H1:=Hd hr
  clear hr
  by_cases Z:cn<=100
  ·have av:decide ((100:Int)<(cn:Int))=false:=decide_eq_false (by omega)
   clear V
   go_enter Tryz.func130,Tryz.ntmps130
   go_wp2_with fail
   refine (aM n 0 64 _).mono ?_
   rw [H1.out]
   rintro _ w' ⟨rfl,rfl⟩
   go_wp2_with fail
   go_loopw [19] (fun i wr=>∃k:Nat,k<=cn/\i = .int .i64 (k:Int)/\Below w.heap.size w wr/\∀j,j<k→oz n (cs[j]?.getD Cn.zero)) (fun i _=>cn - (intOf i).toNat)
   ·exact ⟨0,by omega,rfl,Below.refl _ _,fun j hj=>by omega⟩
   obtain ⟨k,hk,rfl,hb,g⟩:=hrel
   obtain ⟨u,J⟩:=hd2 hb g
   clear hb g
   by_cases a4:k<cn
   ·have a1:=dT (by omega:k<cn)
    have D:k<cs.length:=by rw [ad.out];exact a4
    obtain ⟨bc,oc,SA,m,mc,ax,Q,c0,c1,c2,c3,rs⟩:=HC.out.cn (k:=k) D
    have aY:=Hd ax
    have af:=aK u.out Q
    rw [←u.out.cell (p:=⟨bc,oc+k * 4,none⟩) Q] at c0
    rw [←u.out.cell (p:=⟨bc,oc+k * 4+1,none⟩) Q] at c1
    rw [←u.out.cell (p:=⟨bc,oc+k * 4+2,none⟩) Q] at c2
    rw [←u.out.cell (p:=⟨bc,oc+k * 4+3,none⟩) Q] at c3
    have hg:oz n (cs[k]?.getD Cn.zero)→∀j,j<k+1→oz n (cs[j]?.getD Cn.zero):=fun h=>bW J.out h
    have ay:jJ n cs→oz n (cs[k]?.getD Cn.zero):=fun h=>by rw [List.getElem?_eq_getElem D];exact h.fit _ (List.getElem_mem D)
    have B:=aU.out _ (List.getElem_mem D)
    rw [show cs[k]=cs[k]?.getD Cn.zero by rw [List.getElem?_eq_getElem D];rfl] at B
    obtain ⟨Y,W⟩:=hd2 hg ay
    clear D hg ay ax
    obtain rfl:=aY.out
    generalize cs[k]?.getD Cn.zero=c at *
    obtain ⟨N,⟨a,b⟩,ss⟩:=c
    simp only at c0 c1 c2 c3 B
    have ar:=Hd (show RdC w w.heap.size (bR ss) (.slice SA m mc) from rs)
    have G:Hid (ss.length=m):=ar.out.pinN
    have hm:m<=1048576:=by rw [←G.out];exact B
    obtain ⟨i0,i1⟩:=ib (by omega:k<cn)
    have hy:=aI wr (.cells #[.int .i64 N,.int .i64 a,.int .i64 b,.slice SA m mc] 158)
    have aV:=Hd hy
    obtain ⟨y0,y1,y2,y3,ly⟩:=cO hy
    have K:=Hd (aB u.out (.cells #[.int .i64 N,.int .i64 a,.int .i64 b,.slice SA m mc] 158))
    clear hy rs B
    go_upto_region 6 with fail
    generalize wr.alloc (.cells #[.int .i64 N,.int .i64 a,.int .i64 b,.slice SA m mc] 158)=W6 at *
    cases z:inR (m:Int) 1 120 with
    | false =>
     have I:Hid (¬jJ n cs):=fun h=>by
      have h2:=(W.out h).len
      change 1<=ss.length/\ss.length<=120 at h2
      rw [G.out] at h2
      rw [aR.2 (by omega)] at z
      cases z
     have H2:=Hd z
     clear z Y W
     go_wp2_with fail
     refine (aM (m:Int) 1 120 _).mono ?_
     rw [H2.out]
     rintro _ w' ⟨rfl,rfl⟩
     clear y0 y1 y2 y3 ly c0 c1 c2 c3 af
     go_wp2_with fail
     go_ret
     exact ⟨aO I.out,K.out⟩
    | true =>
     have bb:=aR.1 z
     have H2:=Hd z
     clear z
     go_wp2_with fail
     refine (aM (m:Int) 1 120 _).mono ?_
     rw [H2.out]
     rintro _ w' ⟨rfl,rfl⟩
     go_wp2_with fail
     refine (xE n a b _ hn).mono ?_
     by_cases hf:gJ n ⟨a,b⟩
     ·rw [ae hf]
      have aS:Hid ((∀p∈ss,gJ n p)→∀j,j<k+1→oz n (cs[j]?.getD Cn.zero)):=fun h=>Y.out ⟨⟨by show 1<=ss.length;rw [G.out];omega,by show ss.length<=120;rw [G.out];omega⟩,hf,h⟩
      rintro _ w4 ⟨rfl,H⟩
      have aj:=Hd (aA K.out H)
      have hy:=aD H aV.out
      clear H y0 y1 y2 y3 ly c0 c1 c2 c3 af Y hf
      obtain ⟨-,-,-,y3,ly⟩:=cO hy
      clear hy
      go_wp2_with fail
      clear y3 ly
      go_loopw [38] (fun i wr=>∃j:Nat,j<=m/\i = .int .i64 (j:Int)/\Below w.heap.size w wr/\∀q,q<j→gJ n (ss[q]?.getD bS.zero)) (fun i _=>m - (intOf i).toNat)
      ·exact ⟨0,by omega,rfl,aj.out,fun q hq=>by omega⟩
      obtain ⟨j,hj,rfl,hb,g⟩:=hrel
      obtain ⟨R,ak⟩:=hd2 hb g
      clear hb g
      by_cases aG:j<m
      ·have aX:=dT (by omega:j<m)
       have U:j<ss.length:=by rw [G.out];exact aG
       obtain ⟨bp,op,aH,ag,d0,d1⟩:=ar.out.pin (k:=j) U
       have aW:=Hd aH
       have au:=aK R.out ag
       rw [←R.out.cell (p:=⟨bp,op+j * 2,none⟩) ag] at d0
       rw [←R.out.cell (p:=⟨bp,op+j * 2+1,none⟩) ag] at d1
       have Y:Hid (gJ n (ss[j]?.getD bS.zero)→∀q,q<j+1→gJ n (ss[q]?.getD bS.zero)):=fun h=>bW ak.out h
       have HN:Hid (¬gJ n (ss[j]?.getD bS.zero)→¬jJ n cs):=fun h h'=>h (by
        rw [List.getElem?_eq_getElem U]
        exact (W.out h').sinks _ (List.getElem_mem U))
       clear U aH
       obtain rfl:=aW.out
       generalize ss[j]?.getD bS.zero=s at *
       obtain ⟨x,y⟩:=s
       simp only at d0 d1
       obtain ⟨i2,i3⟩:=ib (by omega:j<m)
       have hq:=aI wr (.cells #[.int .i64 x,.int .i64 y] 100)
       obtain ⟨q0,q1,lq⟩:=jv hq
       have aC:=Hd (aB R.out (.cells #[.int .i64 x,.int .i64 y] 100))
       clear hq
       go_wp2_with fail
       refine (xE n x y _ hn).mono ?_
       by_cases hf:gJ n ⟨x,y⟩
       ·rw [ae hf]
        have al:=Hd (Y.out hf)
        rintro _ w4 ⟨rfl,H⟩
        have ai:=Hd (aA aC.out H)
        clear H q0 q1 lq d0 d1 Y HN hf au
        go_wp2_with fail
        go_roundw
        ·exact ⟨j+1,by omega,by go_num,ai.out,al.out⟩
        simp [intOf];omega
       rw [bJ hf]
       have I:=Hd (HN.out hf)
       rintro _ w4 ⟨rfl,H⟩
       have ai:=Hd (aA aC.out H)
       clear H q0 q1 lq d0 d1 Y HN hf au
       go_wp2_with fail
       go_ret
       exact ⟨aO I.out,ai.out⟩
      have aw:j=m:=by omega
      have aX:=dF (by omega:m<=j)
      have al:=Hd (aS.out (fun p hp=>by
       obtain ⟨q,hq,rfl⟩:=List.getElem_of_mem hp
       have h:=ak.out q (by rw [aw,←G.out];exact hq)
       rwa [List.getElem?_eq_getElem hq] at h))
      clear ak aw
      go_wp2_with fail
      go_roundw
      ·exact ⟨k+1,by omega,by go_num,R.out,al.out⟩
      simp [intOf];omega
     rw [bJ hf]
     have I:Hid (¬jJ n cs):=fun h=>hf (W.out h).src
     rintro _ w4 ⟨rfl,H⟩
     have aj:=Hd (aA K.out H)
     clear H y0 y1 y2 y3 ly c0 c1 c2 c3 af Y hf
     go_wp2_with fail
     go_ret
     exact ⟨aO I.out,aj.out⟩
   have ap:k=cn:=by omega
   have a1:=dF (by omega:cn<=k)
   have I:Hid (jJ n cs):=⟨hn,by rw [ad.out];exact Z,fun c hc=>by
    obtain ⟨j,hj,rfl⟩:=List.getElem_of_mem hc
    have h:=J.out j (by rw [ap,←ad.out];exact hj)
    rwa [List.getElem?_eq_getElem hj] at h⟩
   clear J ap
   go_wp2_with fail
   go_ret
   exact ⟨dU I.out,u.out⟩
  have I:Hid (¬jJ n cs):=fun h=>Z (by rw [←V];exact h.len)
  have av:decide ((100:Int)<(cn:Int))=true:=decide_eq_true (by omega)
  clear V
  go_enter Tryz.func130,Tryz.ntmps130
  go_wp2_with fail
  refine (aM n 0 64 _).mono ?_
  rw [H1.out]
  rintro _ w' ⟨rfl,rfl⟩
  go_wp2_with fail
  go_ret
  exact ⟨aO I.out,Below.refl _ _⟩
theorem l5 (xs bs:List Cn) (CA DA:Option Addr) (cn cc dn dc:Nat) (w:World) (hC:RdC w w.heap.size (ah xs) (.slice CA cn cc)) (D:RdC w w.heap.size (ah bs) (.slice DA dn dc)) (hn:cn<=1048576) (B:∀c∈xs,c.sinks.length<=1048576) :
  Calls Tryz.prog 46 #[.slice CA cn cc,.slice DA dn dc] w fun e w'=>e = .returned (.bool (tb (xs=bs)))/\Below w.heap.size w w':=by
 have ak:=hC.cnN
 have ao:=D.cnN
 obtain ⟨ay,aS,HC,bm,be⟩:=hd5 ak ao hC D B
 clear hC D B
 by_cases aF:cn=dn
 ·subst aF
  have a9:((cn:Int) != (cn:Int))=false:=by simp
  clear ak ao
  go_enter Tryz.func46,Tryz.ntmps46
  go_wp2_with fail
  go_loopw [14] (fun i wr=>∃k:Nat,k<=cn/\i = .int .i64 (k:Int)/\Below w.heap.size w wr/\∀j,j<k→xs[j]?.getD Cn.zero=bs[j]?.getD Cn.zero) (fun i _=>cn - (intOf i).toNat)
  ·exact ⟨0,by omega,rfl,Below.refl _ _,fun j hj=>by omega⟩
  obtain ⟨k,hk,rfl,Y,J⟩:=hrel
  obtain ⟨g,ad⟩:=hd2 Y J
  clear Y J
  by_cases aZ:k<cn
  ·have br:=dT (by omega:k<cn)
   have am:k<xs.length:=by rw [ay.out];exact aZ
   have aR:k<bs.length:=by rw [aS.out];exact aZ
   obtain ⟨bc,oc,SA,m,mc,aU,G,c0,c1,c2,c3,rs⟩:=HC.out.cn (k:=k) am
   obtain ⟨bd,od,TA,m',bl,a1,B,W,V,d2,d3,rt⟩:=bm.out.cn (k:=k) aR
   obtain ⟨bj,bo⟩:=hd2 aU a1
   have Z:=aK g.out G
   have af:=aK g.out B
   rw [←g.out.cell (p:=⟨bc,oc+k * 4,none⟩) G] at c0
   rw [←g.out.cell (p:=⟨bd,od+k * 4,none⟩) B] at W
   rw [←g.out.cell (p:=⟨bc,oc+k * 4+1,none⟩) G] at c1
   rw [←g.out.cell (p:=⟨bd,od+k * 4+1,none⟩) B] at V
   rw [←g.out.cell (p:=⟨bc,oc+k * 4+2,none⟩) G] at c2
   rw [←g.out.cell (p:=⟨bd,od+k * 4+2,none⟩) B] at d2
   rw [←g.out.cell (p:=⟨bc,oc+k * 4+3,none⟩) G] at c3
   rw [←g.out.cell (p:=⟨bd,od+k * 4+3,none⟩) B] at d3
   have hg:xs[k]?.getD Cn.zero=bs[k]?.getD Cn.zero→∀j,j<k+1→xs[j]?.getD Cn.zero=bs[j]?.getD Cn.zero:=fun h=>bW ad.out h
   have aV:xs=bs→xs[k]?.getD Cn.zero=bs[k]?.getD Cn.zero:=fun h=>by rw [h]
   have R:=be.out _ (List.getElem_mem am)
   rw [show xs[k]=xs[k]?.getD Cn.zero by rw [List.getElem?_eq_getElem am];rfl] at R
   obtain ⟨HG,Q⟩:=hd2 hg aV
   clear am aR hg aV aU a1
   obtain rfl:=bj.out
   obtain rfl:=bo.out
   generalize xs[k]?.getD Cn.zero=a at *
   generalize bs[k]?.getD Cn.zero=b at *
   obtain ⟨N,⟨p,q⟩,ss⟩:=a
   obtain ⟨N',⟨p',q'⟩,ts⟩:=b
   simp only at c0 c1 c2 c3 W V d2 d3 R
   have aM:=Hd (show RdC w w.heap.size (bR ss) (.slice SA m mc) from rs)
   have aW:=Hd (show RdC w w.heap.size (bR ts) (.slice TA m' bl) from rt)
   have ag:Hid (ss.length=m):=aM.out.pinN
   have av:Hid (ts.length=m'):=aW.out.pinN
   have hm:m<=1048576:=by rw [←ag.out];exact R
   obtain ⟨i0,i1⟩:=ib (by omega:k<cn)
   clear rs rt R
   by_cases hN:N=N'
   ·subst hN
    have dN:(N != N)=false:=by simp
    by_cases au:p=p'/\q=q'
    ·obtain ⟨rfl,rfl⟩:=au
     by_cases aD:m=m'
     ·subst aD
      have dm:((m:Int) != (m:Int))=false:=by simp
      have a8:Hid (ss=ts→∀j,j<k+1→xs[j]?.getD Cn.zero=bs[j]?.getD Cn.zero):=fun h=>HG.out (by rw [h])
      clear HG
      go_upto_region 6 with fail
      have u:=aY wr
      have z:=aP wr
      refine wpB wr ?_
      repeat (go_big_quiet_step ((fail)))
      refine wpQuiet_nil ?_
      rintro _ ⟨⟨w5,D⟩,rfl⟩
      clear u z
      have H:=Hd (aA g.out D)
      clear D
      have bw:=Hd H.out
      have C3:=Hd ((g.out.cell (p:=⟨bc,oc+k * 4+3,none⟩) G).symm.trans c3)
      have D3:=Hd ((g.out.cell (p:=⟨bd,od+k * 4+3,none⟩) B).symm.trans d3)
      have ae:=(H.out.cell (p:=⟨bc,oc+k * 4+3,none⟩) G).trans (((g.out.cell (p:=⟨bc,oc+k * 4+3,none⟩) G)).symm.trans c3)
      have ai:=(H.out.cell (p:=⟨bd,od+k * 4+3,none⟩) B).trans (((g.out.cell (p:=⟨bd,od+k * 4+3,none⟩) B)).symm.trans d3)
      have I:=aK H.out G
      have K:=aK H.out B
      clear c0 c1 c2 c3 W V d2 d3 Z af
      go_wp2_with fail
      clear ae ai I K
      go_loopw [62] (fun i wr=>∃j:Nat,j<=m/\i = .int .i64 (j:Int)/\Below w.heap.size w wr/\∀q,q<j→ss[q]?.getD bS.zero=ts[q]?.getD bS.zero) (fun i _=>m - (intOf i).toNat)
      ·exact ⟨0,by omega,rfl,H.out,fun q hq=>by omega⟩
      obtain ⟨j,hj,rfl,Y,J⟩:=hrel
      obtain ⟨g,aG⟩:=hd2 Y J
      clear Y J
      by_cases aq:j<m
      ·have bh:=dT (by omega:j<m)
       have aQ:j<ss.length:=by rw [ag.out];exact aq
       have aN:j<ts.length:=by rw [av.out];exact aq
       obtain ⟨bp,op,a0,aE,W,V⟩:=aM.out.pin (k:=j) aQ
       obtain ⟨bq,oq,aX,aH,e0,e1⟩:=aW.out.pin (k:=j) aN
       have ae:=(g.out.cell (p:=⟨bc,oc+k * 4+3,none⟩) G).trans C3.out
       have ai:=(g.out.cell (p:=⟨bd,od+k * 4+3,none⟩) B).trans D3.out
       have I:=aK g.out G
       have K:=aK g.out B
       obtain ⟨bf,bb⟩:=hd2 a0 aX
       have aC:=aK g.out aE
       have ax:=aK g.out aH
       rw [←g.out.cell (p:=⟨bp,op+j * 2,none⟩) aE] at W
       rw [←g.out.cell (p:=⟨bp,op+j * 2+1,none⟩) aE] at V
       rw [←g.out.cell (p:=⟨bq,oq+j * 2,none⟩) aH] at e0
       rw [←g.out.cell (p:=⟨bq,oq+j * 2+1,none⟩) aH] at e1
       have HG:Hid (ss[j]?.getD bS.zero=ts[j]?.getD bS.zero→∀q,q<j+1→ss[q]?.getD bS.zero=ts[q]?.getD bS.zero):=fun h=>bW aG.out h
       have HN:Hid (ss[j]?.getD bS.zero≠ts[j]?.getD bS.zero→xs≠bs):=fun h h'=>h (by
        have h2:=Q.out h'
        injection h2 with _ _ h3
        rw [h3])
       clear aQ aN a0 aX
       obtain rfl:=bf.out
       obtain rfl:=bb.out
       generalize ss[j]?.getD bS.zero=s at *
       generalize ts[j]?.getD bS.zero=t at *
       obtain ⟨x,y⟩:=s
       obtain ⟨x',y'⟩:=t
       simp only at W V e0 e1
       obtain ⟨i2,i3⟩:=ib (by omega:j<m)
       by_cases aB:x=x'/\y=y'
       ·obtain ⟨rfl,rfl⟩:=aB
        have aI:=Hd (HG.out rfl)
        clear HG HN
        go_upto_region 11 with fail
        have u:=aY wr
        have z:=aP wr
        refine wpB wr ?_
        repeat (go_big_quiet_step ((fail)))
        refine wpQuiet_nil ?_
        rintro _ ⟨⟨w5,D⟩,rfl⟩
        clear u z
        have H:=Hd (aA g.out D)
        clear D W V e0 e1 aC ax ae ai I K
        go_wp2_with fail
        go_roundw
        ·exact ⟨j+1,by omega,by go_num,H.out,aI.out⟩
        simp [intOf];omega
       have U:Hid (¬xs=bs):=HN.out fun h=>aB (by injection h with h1 h2;exact ⟨h1,h2⟩)
       clear HG HN
       by_cases hx:x=x'
       ·subst hx
        have dy:(y==y')=false:=by
         cases Y:y==y' with
         | false=>rfl
         | true=>exact absurd ⟨rfl,by simpa using Y⟩ aB
        go_upto_region 11 with fail
        have u:=aY wr
        have z:=aP wr
        refine wpB wr ?_
        repeat (go_big_quiet_step ((fail)))
        refine wpQuiet_nil ?_
        rintro _ ⟨⟨w5,D⟩,rfl⟩
        clear u z
        have H:=Hd (aA g.out D)
        clear D W V e0 e1 aC ax ae ai I K
        go_wp2_with fail
        go_ret
        exact ⟨aO U.out,H.out⟩
       have dx:(x==x')=false:=by
        cases Y:x==x' with
        | false=>rfl
        | true=>exact absurd (by simpa using Y) hx
       go_upto_region 11 with fail
       have u:=aY wr
       have z:=aP wr
       refine wpB wr ?_
       repeat (go_big_quiet_step ((fail)))
       refine wpQuiet_nil ?_
       rintro _ ⟨⟨w5,D⟩,rfl⟩
       clear u z
       have H:=Hd (aA g.out D)
       clear D W V e0 e1 aC ax ae ai I K
       go_wp2_with fail
       go_ret
       exact ⟨aO U.out,H.out⟩
      have aT:j=m:=by omega
      have bh:=dF (by omega:m<=j)
      have aI:=Hd (a8.out (by
       apply List.ext_getElem
       ·rw [ag.out,av.out]
       intro q h1 h2
       have h:=aG.out q (by rw [aT,←ag.out];exact h1)
       rwa [List.getElem?_eq_getElem h1,List.getElem?_eq_getElem h2] at h))
      clear aG aT
      go_wp2_with fail
      go_roundw
      ·exact ⟨k+1,by omega,by go_num,g.out,aI.out⟩
      simp [intOf];omega
     have U:Hid (¬xs=bs):=fun h=>aD (by
      have h2:=Q.out h
      injection h2 with _ _ h3
      rw [←ag.out,←av.out,h3])
     have dm:((m:Int) != (m':Int))=true:=by simp;omega
     clear HG Q aD
     go_upto_region 6 with fail
     have u:=aY wr
     have z:=aP wr
     refine wpB wr ?_
     repeat (go_big_quiet_step ((fail)))
     refine wpQuiet_nil ?_
     rintro _ ⟨⟨w5,D⟩,rfl⟩
     clear u z
     have H:=Hd (aA g.out D)
     clear D c0 c1 c2 c3 W V d2 d3 Z af
     go_wp2_with fail
     go_ret
     exact ⟨aO U.out,H.out⟩
    have U:Hid (¬xs=bs):=fun h=>au (by
     have h2:=Q.out h
     injection h2 with _ h3 _
     injection h3 with h4 h5
     exact ⟨h4,h5⟩)
    clear HG Q
    by_cases hp:p=p'
    ·subst hp
     have dq:(q==q')=false:=by
      cases Y:q==q' with
      | false=>rfl
      | true=>exact absurd ⟨rfl,by simpa using Y⟩ au
     go_upto_region 6 with fail
     have u:=aY wr
     have z:=aP wr
     refine wpB wr ?_
     repeat (go_big_quiet_step ((fail)))
     refine wpQuiet_nil ?_
     rintro _ ⟨⟨w5,D⟩,rfl⟩
     clear u z
     have H:=Hd (aA g.out D)
     clear D c0 c1 c2 c3 W V d2 d3 Z af
     go_wp2_with fail
     go_ret
     exact ⟨aO U.out,H.out⟩
    have dp:(p==p')=false:=by
     cases Y:p==p' with
     | false=>rfl
     | true=>exact absurd (by simpa using Y) hp
    go_upto_region 6 with fail
    have u:=aY wr
    have z:=aP wr
    refine wpB wr ?_
    repeat (go_big_quiet_step ((fail)))
    refine wpQuiet_nil ?_
    rintro _ ⟨⟨w5,D⟩,rfl⟩
    clear u z
    have H:=Hd (aA g.out D)
    clear D c0 c1 c2 c3 W V d2 d3 Z af
    go_wp2_with fail
    go_ret
    exact ⟨aO U.out,H.out⟩
   have U:Hid (¬xs=bs):=fun h=>hN (by
    have h2:=Q.out h
    injection h2 with h3 _ _)
   have dN:(N != N')=true:=by simp [hN]
   clear HG Q hN
   go_upto_region 6 with fail
   have u:=aY wr
   have z:=aP wr
   refine wpB wr ?_
   repeat (go_big_quiet_step ((fail)))
   refine wpQuiet_nil ?_
   rintro _ ⟨⟨w5,D⟩,rfl⟩
   clear u z
   have H:=Hd (aA g.out D)
   clear D c0 c1 c2 c3 W V d2 d3 Z af
   go_wp2_with fail
   go_ret
   exact ⟨aO U.out,H.out⟩
  have aJ:k=cn:=by omega
  have br:=dF (by omega:cn<=k)
  have U:Hid (xs=bs):=by
   show xs=bs
   apply List.ext_getElem
   ·rw [ay.out,aS.out]
   intro q h1 h2
   have h:=ad.out q (by rw [aJ,←ay.out];exact h1)
   rwa [List.getElem?_eq_getElem h1,List.getElem?_eq_getElem h2] at h
  clear ad aJ
  go_wp2_with fail
  go_ret
  exact ⟨dU U.out,g.out⟩
 have U:Hid (¬xs=bs):=fun h=>aF (by rw [←ak,←ao,h])
 have a9:((cn:Int) != (dn:Int))=true:=by simp;omega
 clear ak ao aF
 go_enter Tryz.func46,Tryz.ntmps46
 go_wp2_with fail
 go_ret
 exact ⟨aO U.out,Below.refl _ _⟩
theorem BR (d:Dev) (t p:Int) (w:World) :
  Calls Tryz.prog 219 #[.agg (dv d),.int .i64 t,.int .i64 p] w fun e w'=>e = .returned (.int .i64 (oI d t p))/\Below w.heap.size w w':=by
 have H:Hid (oI d t p=if bB d t=true/\0<=p/\p<jT (bL d t) then t * aV d+p else -1):=rfl
 go_enter Tryz.func219,Tryz.ntmps219
 go_wp2_with fail
 cases ht:bB d t with
 | false =>
  refine (jP ht _).mono ?_
  rintro e w1 ⟨rfl,j⟩
  have I:=Hd (aA (aB (Below.refl _ _) _) j)
  have J:=Hd ht
  clear j ht
  go_wp2_with fail
  go_ret
  exact ⟨aL (by rw [H.out,if_neg (by rw [J.out];simp)]),I.out⟩
 | true =>
  refine (jP ht _).mono ?_
  rintro e w1 ⟨rfl,j⟩
  have I:=Hd (aA (aB (Below.refl _ _) _) j)
  have D1:=Hd j
  obtain ⟨hcc,q⟩:=bG j
  have G:=j.size
  simp only [World.size_alloc] at G
  obtain ⟨u,z,Z⟩:=aU.1 ht
  have ae:=fJ u
  have hT:=ay u
  have hp:=eP u
  have ai:=pM d t
  have HM:=Hd (jc z (show t<=35 by omega) (show 0<=aV d by omega) hp.2)
  obtain ⟨J,Y⟩:=hd2 ht u
  clear j ht u
  go_wp2_with fail
  refine (mV d t _ Y.out z (by omega)).mono ?_
  rintro e w2 ⟨rfl,D⟩
  have R:=Hd (aA I.out D)
  have D2:=Hd (aA D1.out D)
  have ah:=D.size
  clear D hcc q
  obtain ⟨hcc,q⟩:=bG D2.out
  generalize V:bL d t=K at *
  have HK:=Hd V
  clear V
  go_wp2_with (go_at_call 258;refine (tu _ _).mono ?_;rintro e w' ⟨rfl,rfl⟩)
  generalize U:jT K=Q at *
  have HQ:=Hd U
  clear U
  have e3:IntKind.i64.wrap (Q - 1)=Q - 1:=IntWalk.i64_in _ (by omega)
  cases g:inR p 0 (Q - 1) with
  | false =>
   have B:=Hd g
   clear g
   go_wp2_with (go_at_call 93;refine (bV B.out _).mono ?_;rintro e w' ⟨rfl,rfl⟩)
   go_ret
   exact ⟨aL (by rw [H.out,if_neg];rintro ⟨_,h0,h1⟩;have:=qj.1 B.out;omega),R.out⟩
  | true =>
   have B:=Hd g
   have hi:=aR.1 g
   clear g
   go_wp2_with (go_at_call 93;refine (bV B.out _).mono ?_;rintro e w' ⟨rfl,rfl⟩)
   refine (iC d _ (by omega) (by omega)).mono ?_
   rintro e w3 ⟨rfl,W⟩
   have B3:=Hd (aA R.out W)
   have hM:=HM.out
   clear W hcc q e3
   go_wp2_with fail
   go_ret
   exact ⟨aL (by rw [H.out,if_pos ⟨J.out,by omega,by omega⟩]),B3.out⟩
theorem uE (d:Dev) (n:Int) (w:World) :
  Calls Tryz.prog 223 #[.agg (dv d),.int .i64 n] w fun e w'=>e = .returned (.bool (bQ d n && decide (n % aV d<5)))/\Below w.heap.size w w':=by
 go_enter Tryz.func223,Tryz.ntmps223
 go_wp2_with fail
 cases g:bQ d n with
 | false =>
  have j:=Hd g
  refine (fV d n _).mono ?_
  rw [g]
  rintro e Q ⟨rfl,z⟩
  have u:=Hd (aA (aB (Below.refl _ _) _) z)
  clear z g
  go_wp2_with fail
  go_ret
  exact ⟨dC (by rw [j.out];rfl),u.out⟩
 | true =>
  have D:fP d n=true:=by unfold bQ at g;rw [Bool.and_eq_true] at g;exact g.1
  obtain ⟨I,j⟩:=hd2 D g
  refine (fV d n _).mono ?_
  rw [g]
  rintro e Q ⟨rfl,z⟩
  have u:=Hd z
  have G:=z.size
  simp only [World.size_alloc] at G
  obtain ⟨hcc,H⟩:=bG z
  clear z g D
  go_wp2_with fail
  refine (jO d n _ I.out).mono ?_
  rintro e R ⟨rfl,K⟩
  have B:=Hd (aA (aB (Below.refl _ _) _) (aA u.out K))
  clear K hcc H
  generalize hk:n % aV d=k at *
  have J:=Hd hk
  clear hk
  by_cases h5:k<5
  ·have q:decide (k<5)=true:=decide_eq_true h5
   go_wp2_with fail
   go_ret
   exact ⟨dC (by rw [j.out,J.out,q];rfl),B.out⟩
  have q:decide (k<5)=false:=decide_eq_false h5
  go_wp2_with fail
  go_ret
  exact ⟨dC (by rw [j.out,J.out,q];rfl),B.out⟩
theorem vP (d:Dev) (place:List Int) (N a b:Int) (ss:List bS) (PA SA:Option Addr) (pn pc m u:Nat) (w:World) (Q:dP w PA pn place) (ap:pn<=1048576) :
  Calls Tryz.prog 133 #[.agg (dv d),.slice PA pn pc,.agg #[.int .i64 N,.int .i64 a,.int .i64 b,.slice SA m u]] w fun e w'=>e = .returned (.int .i64 (fQ d place ⟨N,⟨a,b⟩,ss⟩))/\Below w.heap.size w w':=by
 have HP:=Hd Q
 have z:fQ d place ⟨N,⟨a,b⟩,ss⟩=if 0<=a/\a<(place.length:Int) then eX d (place[a.toNat]?.getD 0) b else -1:=rfl
 rw [Q.1] at z
 clear Q
 have q:=Hd (aB (aB (Below.refl w.heap.size w) (.cells (dv d) 36)) (.cells #[.int .i64 N,.int .i64 a,.int .i64 b,.slice SA m u] 158))
 have j:=aW (.cells #[.int .i64 N,.int .i64 a,.int .i64 b,.slice SA m u] 158) (aI w (.cells (dv d) 36))
 have g:=aI (w.alloc (.cells (dv d) 36)) (.cells #[.int .i64 N,.int .i64 a,.int .i64 b,.slice SA m u] 158)
 simp only [World.size_alloc] at g
 obtain ⟨J,I⟩:=hd2 j g
 clear j g
 cases hr:inR a 0 ((pn:Int) - 1) with
 | false =>
  have W:Hid (fQ d place ⟨N,⟨a,b⟩,ss⟩=-1):=by show _=_;rw [z,if_neg fun h=>by rw [aR.2 (by omega)] at hr;cases hr]
  have K:=Hd hr
  clear hr z
  go_enter Tryz.func133,Tryz.ntmps133
  go_upto_region 1 with fail
  generalize (w.alloc (.cells (dv d) 36)).alloc (.cells #[.int .i64 N,.int .i64 a,.int .i64 b,.slice SA m u] 158)=G at *
  have j:=J.out
  have g:=I.out
  obtain ⟨x0,x1,Z,x3⟩:=cs4 j
  obtain ⟨y0,y1,y2,y3⟩:=cs4 g
  have lx:=aC j
  have ly:=aC g
  clear j g
  go_wp2_with fail
  refine (aM a 0 ((pn:Int) - 1) _).mono ?_
  rw [K.out]
  rintro _ w1 ⟨rfl,rfl⟩
  go_wp2_with fail
  go_ret
  exact ⟨aL W.out.symm,q.out⟩
 | true =>
  have ha:=aR.1 hr
  obtain ⟨X,rfl⟩:∃X:Nat,a=(X:Int):=⟨a.toNat,by omega⟩
  have hX:X<pn:=by omega
  rw [if_pos ⟨by omega,by omega⟩,Int.toNat_natCast] at z
  obtain ⟨bp,op,rfl,H,D⟩:=HP.out.2 (by omega)
  have cp:=(q.out.cell (p:=⟨bp,op+X,none⟩) H).trans (D X hX)
  have U:=aK q.out H
  generalize place[X]?.getD 0=t at *
  obtain ⟨W,K⟩:=hd2 z hr
  have iX:(X:Int)<(pn:Int):=by omega
  clear hr z D ha
  go_enter Tryz.func133,Tryz.ntmps133
  go_upto_region 1 with fail
  generalize (w.alloc (.cells (dv d) 36)).alloc (.cells #[.int .i64 N,.int .i64 (X:Int),.int .i64 b,.slice SA m u] 158)=G at *
  have j:=J.out
  have g:=I.out
  obtain ⟨x0,x1,Z,x3⟩:=cs4 j
  obtain ⟨y0,y1,y2,y3⟩:=cs4 g
  have lx:=aC j
  have ly:=aC g
  clear j g
  go_wp2_with fail
  refine (aM (X:Int) 0 ((pn:Int) - 1) _).mono ?_
  rw [K.out]
  rintro _ w1 ⟨rfl,rfl⟩
  have V:=Hd (fun (x:Sub G)=>uA d t b x.v)
  go_upto_region 3 with fail
  have B:=aY G
  have R:=aP G
  refine wpB G ?_
  repeat (go_big_quiet_step ((first
   | (go_at_call 224;with_reducible exact aN (V.out _)))))
  refine wpQuiet_nil ?_
  rintro _ ⟨⟨w5,Y⟩,rfl⟩
  clear B R
  have HD:=Hd (aA q.out Y)
  clear Y x0 x1 Z x3 y0 y1 y2 y3 lx ly cp U
  go_wp2_with fail
  go_ret
  exact ⟨aL W.out.symm,HD.out⟩
theorem wL (d:Dev) (place:List Int) (N a b:Int) (ss:List bS) (PA SA:Option Addr) (pn pc m U:Nat) (w:World) (hp:dP w PA pn place) (hs:RdC w w.heap.size (bR ss) (.slice SA m U)) (bk:pn<=1048576) (hm:m<=1048576) :
  Calls Tryz.prog 131 #[.agg (dv d),.slice PA pn pc,.agg #[.int .i64 N,.int .i64 a,.int .i64 b,.slice SA m U]] w fun e w'=>(gy d place ⟨N,⟨a,b⟩,ss⟩/\(∃A c,e = .returned (.slice A m c)/\Own w.heap.size w' A m c (dL d place ⟨N,⟨a,b⟩,ss⟩))∨¬gy d place ⟨N,⟨a,b⟩,ss⟩/\e = .returned (.slice none 0 0))/\Below w.heap.size w w':=by
 obtain ⟨HP,ap⟩:=hd2 hp hs
 have K:Hid (ss.length=m):=hs.pinN
 clear hp hs
 have Q:=Hd (aB (aB (Below.refl w.heap.size w) (.cells (dv d) 36)) (.cells #[.int .i64 N,.int .i64 a,.int .i64 b,.slice SA m U] 158))
 have W:=aW (.cells #[.int .i64 N,.int .i64 a,.int .i64 b,.slice SA m U] 158) (aI w (.cells (dv d) 36))
 have R:=aI (w.alloc (.cells (dv d) 36)) (.cells #[.int .i64 N,.int .i64 a,.int .i64 b,.slice SA m U] 158)
 simp only [World.size_alloc] at R
 obtain ⟨ag,au⟩:=hd2 W R
 clear W R
 go_enter Tryz.func131,Tryz.ntmps131
 go_upto_region 1 with fail
 generalize (w.alloc (.cells (dv d) 36)).alloc (.cells #[.int .i64 N,.int .i64 a,.int .i64 b,.slice SA m U] 158)=W9 at *
 have W:=ag.out
 have R:=au.out
 have x0:=aF (k:=0) W rfl
 obtain ⟨y0,y1,y2,y3⟩:=cs4 R
 have lx:=aC W
 have ly:=aC R
 clear W R
 go_wp2_with fail
 clear x0 y0 y1 y2 y3 lx ly
 go_loopw [7,14] (fun v i wr=>∃(k:Nat) (A:Option Addr) (c:Nat),k<=m/\i = .int .i64 (k:Int)/\v = .slice A k c/\aJ W9 wr [.cel (aH ((ss.take k).map (dH d place))) (.slice A k c)]/\∀j,j<k→0<=dH d place (ss[j]?.getD bS.zero)) (fun _ i _=>m - (intOf i).toNat)
 ·exact ⟨0,none,0,by omega,rfl,rfl,(aJ.refl W9).pushNil 3 1,fun j hj=>by omega⟩
 obtain ⟨k,A1,c1,hk,rfl,rfl,hs,H⟩:=hrel
 obtain ⟨HS,q⟩:=hd2 hs H
 have G:=Hd (aA Q.out hs.bel)
 clear hs H
 by_cases a1:k<m
 ·have aU:=dT (by omega:k<m)
  have u:k<ss.length:=by rw [K.out];exact a1
  obtain ⟨bs,os,ai,J,d0,d1⟩:=ap.out.pin (k:=k) u
  have ax:=Hd ai
  have aT:=aK G.out J
  rw [←G.out.cell (p:=⟨bs,os+k * 2,none⟩) J] at d0
  rw [←G.out.cell (p:=⟨bs,os+k * 2+1,none⟩) J] at d1
  have HG:Hid (0<=dH d place (ss[k]?.getD bS.zero)→∀j,j<k+1→0<=dH d place (ss[j]?.getD bS.zero)):=fun h=>bW q.out h
  have g:Hid (¬0<=dH d place (ss[k]?.getD bS.zero)→¬gy d place ⟨N,⟨a,b⟩,ss⟩):=fun h h'=>h (by rw [List.getElem?_eq_getElem u];exact h' _ (List.getElem_mem u))
  have D:=Hd (show (ss.take (k+1)).map (dH d place)=(ss.take k).map (dH d place)++[dH d place (ss[k]?.getD bS.zero)] from by rw [bU (z:=bS.zero) u,List.map_append];rfl)
  clear u ai
  obtain rfl:=ax.out
  generalize ss[k]?.getD bS.zero=p at *
  obtain ⟨x,y⟩:=p
  simp only at d0 d1
  have V:dH d place ⟨x,y⟩=if 0<=x/\x<(place.length:Int) then oI d (place[x.toNat]?.getD 0) y else -1:=rfl
  rw [HP.out.1] at V
  obtain ⟨i0,i1⟩:=ib (by omega:k<m)
  have HA:=Hd (HS.out.alloc (.cells #[.int .i64 x,.int .i64 y] 100))
  obtain ⟨q0,q1,lq⟩:=jv (aI wr (.cells #[.int .i64 x,.int .i64 y] 100))
  go_upto_region 5 with fail
  clear d0 d1 aT
  generalize wr.alloc (.cells #[.int .i64 x,.int .i64 y] 100)=W6 at *
  have B:=Hd (aA Q.out HA.out.bel)
  obtain ⟨x0,x1,x2,x3,lx⟩:=cO (aD HA.out.bel ag.out)
  cases hr:inR x 0 ((pn:Int) - 1) with
  | false =>
   have aG:dH d place ⟨x,y⟩=-1:=by rw [V,if_neg fun h=>by rw [aR.2 (by omega)] at hr;cases hr]
   have Y:=Hd (g.out (by omega))
   have H1:=Hd hr
   clear hr V aG HG g D
   go_wp2_with fail
   refine (aM x 0 ((pn:Int) - 1) _).mono ?_
   rw [H1.out]
   rintro _ w1 ⟨rfl,rfl⟩
   clear x0 x1 x2 x3 lx q0 q1 lq
   go_wp2_with fail
   go_ret
   exact ⟨.inr ⟨Y.out,rfl⟩,B.out⟩
  | true =>
   have ha:=aR.1 hr
   obtain ⟨X,rfl⟩:∃X:Nat,x=(X:Int):=⟨x.toNat,by omega⟩
   have hX:X<pn:=by omega
   rw [if_pos ⟨by omega,by omega⟩,Int.toNat_natCast] at V
   obtain ⟨bp,op,ae,af,Z⟩:=HP.out.2 (by omega)
   have aX:=Hd ae
   have cp:=(B.out.cell (p:=⟨bp,op+X,none⟩) af).trans (Z X hX)
   have ar:=aK B.out af
   clear ae
   obtain rfl:=aX.out
   generalize place[X]?.getD 0=t at *
   obtain ⟨aq,H1⟩:=hd2 V hr
   have iX:(X:Int)<(pn:Int):=by omega
   clear hr V Z ha
   go_wp2_with fail
   refine (aM (X:Int) 0 ((pn:Int) - 1) _).mono ?_
   rw [H1.out]
   rintro _ w1 ⟨rfl,rfl⟩
   have aZ:=Hd (fun (x:Sub W6)=>BR d t y x.v)
   go_upto_region 7 with fail
   have ah:=aY W6
   have az:=aP W6
   refine wpB W6 ?_
   repeat (go_big_quiet_step ((first
    | (go_at_call 219;with_reducible exact aN (aZ.out _)))))
   refine wpQuiet_nil ?_
   rintro _ ⟨⟨w5,hD⟩,rfl⟩
   clear ah az
   have aO:=Hd (HA.out.below hD)
   have aS:=Hd (aA B.out hD)
   clear hD x0 x1 x2 x3 lx q0 q1 lq cp ar
   rw [aq.out] at HG g D
   generalize oI d t y=z at *
   by_cases hz:0<=z
   ·have dz:decide (z<0)=false:=decide_eq_false (by omega)
    have a2:=Hd (HG.out hz)
    clear HG g
    go_wp2_with (at_builtin;refine gF rfl _ _ rfl _ (aO.out.alloc _) 0 A1 k c1 ((ss.take k).map (dH d place)) z _ (0,0) rfl rfl rfl (aI _ _) (by omega) ?_;intro g9 bo w9 S9 ay;have aE:=Hd S9;clear S9 ay)
    go_roundw
    ·exact ⟨k+1,_,_,by omega,by go_num,rfl,by rw [D.out];exact aE.out,a2.out⟩
    simp [intOf];omega
   have dz:decide (z<0)=true:=decide_eq_true (by omega)
   have Y:=Hd (g.out (by omega))
   clear HG g D
   go_wp2_with fail
   go_ret
   exact ⟨.inr ⟨Y.out,rfl⟩,aS.out⟩
 have I:k=m:=by omega
 have aU:=dF (by omega:m<=k)
 have Y:Hid (gy d place ⟨N,⟨a,b⟩,ss⟩):=fun p hp=>by
  obtain ⟨j,hj,rfl⟩:=List.getElem_of_mem hp
  have h:=q.out j (by rw [I,←K.out];exact hj)
  rwa [List.getElem?_eq_getElem hj] at h
 have HD:Hid (aJ W9 wr [.cel (aH (dL d place ⟨N,⟨a,b⟩,ss⟩)) (.slice A1 m c1)]):=by
  have h:=HS.out
  rwa [I,List.take_of_length_le (by rw [K.out];exact Nat.le_refl _)] at h
 subst I
 clear HS q
 go_wp2_with fail
 go_ret
 exact ⟨.inl ⟨Y.out,_,_,rfl,(HD.out.owned 0 rfl).more Q.out.size⟩,G.out⟩
def mP (x:Int):Prop:=-9223372036854775808<=x/\x<=9223372036854775807
theorem F5 {x:Int} (h:mP x):(Lit.int .i64 x).wf=true:=by
 unfold mP at h
 unfold Lit.wf
 rw [Bool.and_eq_true]
 exact ⟨decide_eq_true h.1,decide_eq_true h.2⟩
theorem EW:Maps.Keyed Tryz.prog 3:=Maps.int_keyed Tryz.underlying3
theorem FU {x:Int} (h:mP x):keyOf Tryz.prog 3 (.int .i64 x)=some (.int .i64 x):=Maps.keyOf_int_mk Tryz.underlying3 (F5 h)
theorem rY {v:Value} {x:Bool} {p:List MemPlace} (h:plainElem (H:=Unit) Tryz.prog 4 v=some (.lit (.bool x),p)):v = .bool x:=by
 unfold plainElem at h
 rw [Tryz.underlying4] at h
 cases v <;> simp at h
 rename_i y
 rw [h.1]
def oO (w:World) (b:Nat) (l:List Int):Prop :=
 ∃D:DataW Unit,w.ownsMap Tryz.prog 3 (plainElem Tryz.prog 4) b l.length D/\∀x:Int,D.atKey (.int .i64 x) (.lit (.bool false)) = .lit (.bool (decide (x∈l)))
theorem oO.made (w:World):oO (w.alloc (.map #[] 0)) w.heap.size []:=⟨.map [],World.ownsMap_made w _ _ _,fun x=>by simp;rfl⟩
theorem oO.lt {w:World} {b:Nat} {l:List Int} (h:oO w b l):b<w.heap.size:=by
 obtain ⟨D,h1,_⟩:=h
 exact h1.lt
theorem oO.keep {w w':World} {b:Nat} {l:List Int} (h:oO w b l) (hk:w'.heap[b]?=w.heap[b]?):oO w' b l:=by
 obtain ⟨D,⟨es,j,g,hr⟩,h2⟩:=h
 exact ⟨D,⟨es,j,hk.trans g,hr⟩,h2⟩
theorem oO.below {w w':World} {b:Nat} {l:List Int} (h:oO w b l) (g:Below w.heap.size w w'):oO w' b l:=h.keep (g.block b h.lt)
theorem F3 (w:World):(zeroValue 4).run Tryz.prog w = .ok (.bool false) w:=by kernel_rfl
theorem oO.look {w:World} {b:Nat} {l:List Int} (h:oO w b l) {g:Int} (hk:mP g):(Instr.lookup 171 (.map (some b)) (.int .i64 g) false).run Tryz.prog w = .ok (.bool (decide (g∈l))) w:=by
 obtain ⟨D,h1,h2⟩:=h
 obtain ⟨v,ps,hr,j⟩:=h1.lookup EW Tryz.underlying171 (F3 w) (plainElem_bool Tryz.underlying4 false) (FU hk)
 rw [h2 g] at j
 rw [hr,rY j]
abbrev sj (b:Nat) (l:List Int):Pc := .own b fun w=>oO w b l
theorem aJ.setPut {W w:World} {ps:List Pc} (S:aJ W w ps) (i:Nat) {b:Nat} {l:List Int} (hi:ps[i]?=some (sj b l)) (hn:l.length<100000) (g:Int) (hk:mP g) :
  ∃w',(Instr.mapUpdate 171 (.map (some b)) (.int .i64 g) (.bool true)).run Tryz.prog w = .ok () w'/\aJ W w' (ps.set i (sj b (l++[g])))/\w.heap.size<=w'.heap.size:=by
 obtain ⟨⟨D,h1,h2⟩,_,_⟩:=S.own i hi
 obtain ⟨w',B,z,q⟩:=h1.store EW Tryz.underlying171 (by unfold maxLen;omega) (FU hk) (plainElem_bool Tryz.underlying4 true)
 refine ⟨w',B,S.own_upd i hi q.grown ⟨_,by rw [List.length_append];exact z,fun x=>?_⟩ (fun H G e h=>h.keep e),q.grown.size⟩
 have u:=World.ownsMap.isMap h1
 by_cases e:x=g
 ·subst e
  rw [Maps.atKey_put_same u (by trivial)]
  simp
 have j:(Lit.int .i64 x) ≠ .int .i64 g:=fun h=>e (by injection h)
 rw [Maps.atKey_put_other j,h2 x]
 simp [e]
theorem aJ.pushSet {W w:World} {ps:List Pc} (h:aJ W w ps):aJ W (w.alloc (.map #[] 0)) (ps++[sj w.heap.size []]) :=
 h.push (aB (Below.refl _ _) _) (G:=[w.heap.size]) ⟨rfl,by simp,oO.made w,fun _ _ e h=>h.keep e⟩ (by simp) (by simp)
theorem aJ.look {W w:World} {ps:List Pc} (S:aJ W w ps) (i:Nat) {b:Nat} {l:List Int} (hi:ps[i]?=some (sj b l)) {g:Int} (hk:mP g):(Instr.lookup 171 (.map (some b)) (.int .i64 g) false).run Tryz.prog w = .ok (.bool (decide (g∈l))) w:=(S.own i hi).1.look hk
theorem rE {ops:Array Oper} {rest:List Oper} {o:Oper} {a:Act} {Q:Exit→Act→World→Prop} {w W:World} (hg:o.guard=none) (z x v:Operand) (q:o.op=Op.mapUpdate 171 z x v)
  (ps:List Pc) (S:aJ W w ps) (i b:Nat) (l:List Int) (hi:ps[i]?=some (sj b l)) (D:a.eval z = .map (some b)) (hn:l.length<100000) (g:Int) (H:a.eval x = .int .i64 g) (B:a.eval v = .bool true)
  (hk:mP g) (h:∀w',aJ W w' (ps.set i (sj b (l++[g])))→w.heap.size<=w'.heap.size→wpList Tryz.prog ops Q rest (a.put o.dst undef) w'):wpList Tryz.prog ops Q (o :: rest) a w:=by
 refine wpList_plain hg fun J u=>?_
 obtain ⟨w',j,I,G⟩:=S.setPut i hi hn g hk
 unfold Oper.wp
 simp [execOp,q,D,H,B,j,Result.andThen]
 exact u _ _ (h w' I G)
theorem jK (d:Dev) (n:Int) (w:World) :
  Calls Tryz.prog 221 #[.agg (dv d),.int .i64 n] w fun e w'=>e = .returned (.bool (bQ d n && (decide (n % aV d=5) || decide (n % aV d=6))))/\Below w.heap.size w w':=by
 go_enter Tryz.func221,Tryz.ntmps221
 go_wp2_with fail
 cases g:bQ d n with
 | false =>
  have j:=Hd g
  refine (fV d n _).mono ?_
  rw [g]
  rintro e W ⟨rfl,B⟩
  have z:=Hd (aA (aB (Below.refl _ _) _) B)
  clear B g
  go_wp2_with fail
  go_ret
  exact ⟨dC (by rw [j.out];rfl),z.out⟩
 | true =>
  have G:fP d n=true:=by unfold bQ at g;rw [Bool.and_eq_true] at g;exact g.1
  obtain ⟨R,j⟩:=hd2 G g
  refine (fV d n _).mono ?_
  rw [g]
  rintro e W ⟨rfl,B⟩
  have z:=Hd B
  have I:=B.size
  simp only [World.size_alloc] at I
  obtain ⟨hcc,K⟩:=bG B
  clear B g G
  go_wp2_with fail
  refine (jO d n _ R.out).mono ?_
  rintro e Y ⟨rfl,U⟩
  have u:=Hd (aA (aB (Below.refl _ _) _) (aA z.out U))
  clear U hcc K
  generalize hk:n % aV d=k at *
  have Q:=Hd hk
  clear hk
  by_cases h5:k=5
  ·have q:(k==5)=true:=by simpa using h5
   have J:=Hd h5
   clear h5
   go_wp2_with fail
   go_ret
   exact ⟨dC (by rw [j.out,Q.out,J.out];rfl),u.out⟩
  have q:(k==5)=false:=by simpa using h5
  by_cases D:k=6
  ·have V:(k==6)=true:=by simpa using D
   have H:=Hd D
   clear h5 D
   go_wp2_with fail
   go_ret
   exact ⟨dC (by rw [j.out,Q.out,H.out];rfl),u.out⟩
  have V:(k==6)=false:=by simpa using D
  obtain ⟨J,H⟩:=hd2 h5 D
  clear h5 D
  go_wp2_with fail
  go_ret
  exact ⟨dC (by rw [j.out,Q.out];simp [J.out,H.out]),u.out⟩
theorem lm (d:Dev) (n:Int):(fe d n).length<=26:=by
 unfold fe
 split
 ·rename_i h
  have g:=h.1
  unfold bQ at g
  rw [Bool.and_eq_true] at g
  have z:=ay (il g.1).1
  have h1:=jQ (jl d (n / aV d) (n % aV d))
  have u:∀(r:Int) (k:Nat),(iQ d (n / aV d) (n % aV d) r (k:Int) (bg (k:Int)).toNat).length<=1+k % 2:=by
   intro r k
   have D:(bg (k:Int)).toNat=1+k % 2:=by unfold bg;omega
   have q:∀s:Int,(mH d (n / aV d) (n % aV d) r (k:Int) s).length<=1:=by
    intro s;unfold mH mO;split <;> (try split) <;> simp
   have:∀s:Nat,(iQ d (n / aV d) (n % aV d) r (k:Int) s).length<=s:=by
    intro s
    induction s with
    | zero=>simp [iQ]
    | succ s ih=>rw [nR,List.length_append];have:=q ((s:Int)+1);omega
   have:=this (bg (k:Int)).toNat
   omega
  have j:∀(r:Int) (k:Nat),(jF d (n / aV d) (n % aV d) r k).length<=k+k / 2:=by
   intro r k
   induction k with
   | zero=>simp [jF]
   | succ k ih=>rw [nS,List.length_append];have:=u r k;omega
  have hA:∀r:Nat,(iH d (n / aV d) (n % aV d) r).length<=6 * r:=by
   intro r
   induction r with
   | zero=>simp [iH]
   | succ r ih=>rw [nT,List.length_append];have:=j (r:Int) d.T.toNat;omega
  have:=hA 4
  have ho:(jC d (n / aV d)).length<=2:=by unfold jC;split <;> simp
  have B:(jl d (n / aV d) (n % aV d)).length<=26:=by
   unfold jl
   rw [List.length_append]
   split
   ·omega
   simp;omega
  omega
 simp
/-! ### a tile's node -/
theorem gU (d:Dev) (w:World) :
  Calls Tryz.prog 220 #[.agg (dv d)] w fun e w'=>e = .returned (.int .i64 (ik d))/\Below w.heap.size w w':=by
 have z:=Hd (aB (Below.refl w.heap.size w) (.cells (dv d) 36))
 have q:=aI w (.cells (dv d) 36)
 have R:=Hd q
 obtain ⟨J,H,G,I,D⟩:=cO q
 clear q
 cases j:dR d with
 | false =>
  have K:Hid (ik d=0):=by show _=_;unfold ik;rw [j];rfl
  have B:=Hd j
  clear j
  go_enter Tryz.func220,Tryz.ntmps220
  go_upto_region 1 with fail
  generalize w.alloc (.cells (dv d) 36)=V at *
  go_wp2_with fail
  refine (fu d _).mono ?_
  rw [B.out]
  rintro _ W ⟨rfl,u⟩
  have g:=Hd (aA z.out u)
  clear u J H G I D
  go_wp2_with fail
  go_ret
  exact ⟨aL K.out.symm,g.out⟩
 | true =>
  have K:Hid (ik d=gH d):=by show _=_;unfold ik;rw [if_pos j]
  have B:=Hd j
  clear j
  go_enter Tryz.func220,Tryz.ntmps220
  go_upto_region 1 with fail
  generalize w.alloc (.cells (dv d) 36)=V at *
  go_wp2_with fail
  refine (fu d _).mono ?_
  rw [B.out]
  rintro _ W ⟨rfl,u⟩
  have g:=Hd (aA z.out u)
  have q:=aD u R.out
  clear u J H G I D
  obtain ⟨J,H,G,I,D⟩:=cO q
  clear q
  go_wp2_with fail
  refine (nQ d _ B.out).mono ?_
  rintro _ Y ⟨rfl,U⟩
  have Q:=Hd (aA g.out U)
  clear U J H G I D
  go_wp2_with fail
  go_ret
  exact ⟨aL K.out.symm,Q.out⟩
theorem dB.bd {d:Dev} {src:Int} {g:List Int} {r:Rou} (h:dB d src g r):r.nodes.length<=828:=by
 have h1:=h.len.2
 have h2:=fZ h.dev
 omega
theorem EX {d:Dev} {n:Int} (h:bQ d n=true):mP n:=by
 unfold bQ at h
 rw [Bool.and_eq_true] at h
 have:=il h.1
 unfold mP
 omega
theorem zq (d:Dev) (src:Int) (Q:List Int) (r:Rou) (KA NA FA:Option Addr) (kn kc I nc fn fc:Nat) (w:World) (hk:dP w KA kn Q) (hn:dP w NA I r.nodes) (hf:dP w FA fn r.from_) (bX:kn<=1048576) (cV:I<=1048576) (dh:fn<=1048576) (b4:∀s∈Q,mP s) :
  Calls Tryz.prog 132 #[.agg (dv d),.int .i64 src,.slice KA kn kc,.agg #[.slice NA I nc,.slice FA fn fc]] w fun e w'=>e = .returned (.bool (tb (dB d src Q r)))/\Below w.heap.size w w':=by
 obtain ⟨bl,HN,bL,bs⟩:=hd4 hk hn hf b4
 clear hk hn hf b4
 have ar:=Hd (aB (aB (Below.refl w.heap.size w) (.cells (dv d) 36)) (.cells #[.slice NA I nc,.slice FA fn fc] 114))
 have B:=aW (.cells #[.slice NA I nc,.slice FA fn fc] 114) (aI w (.cells (dv d) 36))
 have g:=aI (w.alloc (.cells (dv d) 36)) (.cells #[.slice NA I nc,.slice FA fn fc] 114)
 simp only [World.size_alloc] at g
 obtain ⟨Y,V⟩:=hd2 B g
 clear B g
 by_cases c1:I<1
 ·have HR:Hid (¬dB d src Q r):=fun h=>by have:=h.len.1;rw [HN.out.1] at this;omega
  have d1:decide ((I:Int)<1)=true:=decide_eq_true (by omega)
  have cC:decide (I<1)=true:=decide_eq_true c1
  go_enter Tryz.func132,Tryz.ntmps132
  go_upto_region 1 with fail
  generalize (w.alloc (.cells (dv d) 36)).alloc (.cells #[.slice NA I nc,.slice FA fn fc] 114)=J at *
  have B:=Y.out
  have g:=V.out
  obtain ⟨x0,x1,x2,x3⟩:=cs4 B
  obtain ⟨W,y1⟩:=cs2 g
  have R:=aC B
  have U:=aC g
  clear B g
  have ag:=Hd (fun (x:Sub J)=>gU d x.v)
  have H:=fun (x:Sub J)=>jK d src x.v
  skip
  have ai:=Hd H
  clear H
  have u:=aY J
  have K:=aP J
  refine wpB J ?_
  repeat (go_big_quiet_step ((first
   | (go_at_call 220;with_reducible exact aN (ag.out _))
   | (go_at_call 221;with_reducible exact aN (ai.out _)))))
  refine wpQuiet_nil ?_
  rintro _ ⟨⟨w5,G⟩,rfl⟩
  clear u K
  have HD:=Hd (aA ar.out G)
  have ao:=Hd (aD G Y.out)
  have ap:=Hd (aD G V.out)
  clear G x0 x1 x2 x3 W y1 R U
  go_wp2_with fail
  go_ret
  exact ⟨aO HR.out,HD.out⟩
 have d1:decide ((I:Int)<1)=false:=decide_eq_false (by omega)
 have cC:decide (I<1)=false:=decide_eq_false c1
 by_cases c2:ik d<(I:Int)
 ·have HR:Hid (¬dB d src Q r):=fun h=>by
   have h1:=h.len.2
   rw [HN.out.1] at h1
   unfold ik at c2
   rw [if_pos h.dev] at c2
   omega
  have d2:decide (ik d<(I:Int))=true:=decide_eq_true c2
  clear c2
  go_enter Tryz.func132,Tryz.ntmps132
  go_upto_region 1 with fail
  generalize (w.alloc (.cells (dv d) 36)).alloc (.cells #[.slice NA I nc,.slice FA fn fc] 114)=J at *
  have B:=Y.out
  have g:=V.out
  obtain ⟨x0,x1,x2,x3⟩:=cs4 B
  obtain ⟨W,y1⟩:=cs2 g
  have R:=aC B
  have U:=aC g
  clear B g
  have ag:=Hd (fun (x:Sub J)=>gU d x.v)
  have H:=fun (x:Sub J)=>jK d src x.v
  skip
  have ai:=Hd H
  clear H
  have u:=aY J
  have K:=aP J
  refine wpB J ?_
  repeat (go_big_quiet_step ((first
   | (go_at_call 220;with_reducible exact aN (ag.out _))
   | (go_at_call 221;with_reducible exact aN (ai.out _)))))
  refine wpQuiet_nil ?_
  rintro _ ⟨⟨w5,G⟩,rfl⟩
  clear u K
  have HD:=Hd (aA ar.out G)
  have ao:=Hd (aD G Y.out)
  have ap:=Hd (aD G V.out)
  clear G x0 x1 x2 x3 W y1 R U
  go_wp2_with fail
  go_ret
  exact ⟨aO HR.out,HD.out⟩
 have bt:dR d=true:=by
  cases hd:dR d with
  | true=>rfl
  | false=>unfold ik at c2;rw [hd] at c2;simp at c2;omega
 have cJ:=Hd bt
 have bT:Hid ((I:Int)<=gH d):=by show _<=_;unfold ik at c2;rw [if_pos bt] at c2;omega
 have cz:I<=828:=by have h1:=bT.out;have h2:=fZ bt;omega
 have d2:decide (ik d<(I:Int))=false:=decide_eq_false c2
 clear c2 bt
 by_cases c3:fn=I
 ·subst c3
  have d3:((fn:Int) != (fn:Int))=false:=by simp
  obtain ⟨I,rfl⟩:∃x,x=fn:=⟨fn,rfl⟩
  obtain ⟨bn,al,rfl,a9,cl⟩:=HN.out.2 (by omega)
  obtain ⟨bf,am,rfl,bu,b1⟩:=bL.out.2 (by omega)
  obtain ⟨bH,b8⟩:=hd2 cl b1
  clear cl b1
  have a4:=(ar.out.cell (p:=⟨bn,al+0,none⟩) a9).trans (bH.out 0 (by omega))
  have a2:=(ar.out.cell (p:=⟨bf,am+0,none⟩) bu).trans (b8.out 0 (by omega))
  rw [Nat.add_zero] at a4 a2
  have aU:=aK ar.out a9
  have aZ:=aK ar.out bu
  obtain ⟨n0,bJ⟩:∃x,r.nodes[0]?.getD 0=x:=⟨_,rfl⟩
  obtain ⟨f0,bI⟩:∃x,r.from_[0]?.getD 0=x:=⟨_,rfl⟩
  rw [bJ] at a4
  rw [bI] at a2
  obtain ⟨bY,b7⟩:=hd2 bJ bI
  have cU:(0:Int)<(I:Int):=by omega
  clear bJ bI
  by_cases c4:n0=src
  ·have d4:(n0 != src)=false:=by simp [c4]
   cases ax:(bQ d src && (decide (src % aV d=5) || decide (src % aV d=6))) with
   | false =>
    have HR:Hid (¬dB d src Q r):=fun h=>by
     have h1:bQ d src=true:=by
      rw [←h.root.1,List.getElem?_eq_getElem (by rw [HN.out.1];omega)]
      exact h.node _ (List.getElem_mem _)
     have h2:=h.root.2.2
     rw [h1] at ax
     rcases h2 with h2|h2 <;> simp [h2] at ax
    have aX:=Hd ax
    clear ax
    go_enter Tryz.func132,Tryz.ntmps132
    go_upto_region 1 with fail
    generalize (w.alloc (.cells (dv d) 36)).alloc (.cells #[.slice (some ⟨bn,al,none⟩) I nc,.slice (some ⟨bf,am,none⟩) I fc] 114)=J at *
    have B:=Y.out
    have g:=V.out
    obtain ⟨x0,x1,x2,x3⟩:=cs4 B
    obtain ⟨W,y1⟩:=cs2 g
    have R:=aC B
    have U:=aC g
    clear B g
    have ag:=Hd (fun (x:Sub J)=>gU d x.v)
    have H:=fun (x:Sub J)=>jK d src x.v
    rw [show (bQ d src && (decide (src % aV d=5) || decide (src % aV d=6)))=false from aX.out] at H
    have ai:=Hd H
    clear H
    have u:=aY J
    have K:=aP J
    refine wpB J ?_
    repeat (go_big_quiet_step ((first
     | (go_at_call 220;with_reducible exact aN (ag.out _))
     | (go_at_call 221;with_reducible exact aN (ai.out _)))))
    refine wpQuiet_nil ?_
    rintro _ ⟨⟨w5,G⟩,rfl⟩
    clear u K
    have HD:=Hd (aA ar.out G)
    have ao:=Hd (aD G Y.out)
    have ap:=Hd (aD G V.out)
    clear G x0 x1 x2 x3 W y1 R U a4 a2 aU aZ
    go_wp2_with fail
    go_ret
    exact ⟨aO HR.out,HD.out⟩
   | true =>
    have aX:=Hd ax
    by_cases c6:f0=0
    ·have d6:(f0 != 0)=false:=by simp [c6]
     have bG:Hid (r.nodes[0]?.getD 0=src/\r.from_[0]?.getD 0=0/\(src % aV d=5∨src % aV d=6)):=⟨by rw [bY.out,c4],by rw [b7.out,c6],by simp at ax;exact ax.2⟩
     clear ax c4 c6
     go_enter Tryz.func132,Tryz.ntmps132
     go_upto_region 1 with fail
     generalize (w.alloc (.cells (dv d) 36)).alloc (.cells #[.slice (some ⟨bn,al,none⟩) I nc,.slice (some ⟨bf,am,none⟩) I fc] 114)=J at *
     have B:=Y.out
     have g:=V.out
     obtain ⟨x0,x1,x2,x3⟩:=cs4 B
     obtain ⟨W,y1⟩:=cs2 g
     have R:=aC B
     have U:=aC g
     clear B g
     have ag:=Hd (fun (x:Sub J)=>gU d x.v)
     have H:=fun (x:Sub J)=>jK d src x.v
     rw [show (bQ d src && (decide (src % aV d=5) || decide (src % aV d=6)))=true from aX.out] at H
     have ai:=Hd H
     clear H
     have u:=aY J
     have K:=aP J
     refine wpB J ?_
     repeat (go_big_quiet_step ((first
      | (go_at_call 220;with_reducible exact aN (ag.out _))
      | (go_at_call 221;with_reducible exact aN (ai.out _)))))
     refine wpQuiet_nil ?_
     rintro wq ⟨⟨w5,G⟩,hw⟩
     replace hw:wq=w5:=hw
     subst hw
     clear u K
     have HD:=Hd (aA ar.out G)
     have ao:=Hd (aD G Y.out)
     have ap:=Hd (aD G V.out)
     clear G x0 x1 x2 x3 W y1 R U a4 a2 aU aZ
     have cs:∀(t:TypeId) (w:World),(Instr.makeMap t none).run Tryz.prog w = .ok (.map (some w.heap.size)) (w.alloc (.map #[] 0)):=fun t w=>run_makeMap t w
     have bF:=Hd ((aJ.refl wq).pushSet)
     have B:=aD bF.out.bel ao.out
     have g:=aD bF.out.bel ap.out
     have x0:=aF (k:=0) B rfl
     have W:=aF (k:=0) g rfl
     have R:=aC B
     have U:=aC g
     clear B g
     go_wp2_with fail
     clear x0 W R U cs
     go_loopw [60] (fun i wr=>∃k:Nat,k<=I/\i = .int .i64 (k:Int)/\aJ wq wr [sj wq.heap.size (r.nodes.take k)]/\(∀j,j<k→bQ d (r.nodes[j]?.getD 0)=true/\(0<j→(0<=r.from_[j]?.getD 0/\r.from_[j]?.getD 0<(j:Int))/\r.nodes[(r.from_[j]?.getD 0).toNat]?.getD 0∈fe d (r.nodes[j]?.getD 0))/\(r.nodes[j]?.getD 0 % aV d<5→r.nodes[j]?.getD 0∈Q))/\(r.nodes.take k).Nodup) (fun i _=>I - (intOf i).toNat)
     ·exact ⟨0,by omega,rfl,bF.out,fun j hj=>by omega,by simp⟩
     obtain ⟨k,hk,rfl,hs,bC,bZ⟩:=hrel
     obtain ⟨HS,aw,a6⟩:=hd3 hs bC bZ
     have aE:=Hd (aA HD.out hs.bel)
     have cc:=Hd (aD hs.bel ao.out)
     have ce:=Hd (aD hs.bel ap.out)
     clear hs bC bZ
     by_cases bP:k<I
     ·have cG:=dT (by omega:k<I)
      have aT:k<r.nodes.length:=by rw [HN.out.1];exact bP
      have cn:=(aE.out.cell (p:=⟨bn,al+k,none⟩) a9).trans (bH.out k bP)
      have cT:=aK aE.out a9
      have av:=Hd (bU (z:=0) aT)
      have cj:dB d src Q r→bQ d (r.nodes[k]?.getD 0)=true/\r.nodes[k]?.getD 0∉r.nodes.take k/\(0<k→(0<=r.from_[k]?.getD 0/\r.from_[k]?.getD 0<(k:Int))/\r.nodes[(r.from_[k]?.getD 0).toNat]?.getD 0∈fe d (r.nodes[k]?.getD 0))/\(r.nodes[k]?.getD 0 % aV d<5→r.nodes[k]?.getD 0∈Q):=fun h=>by
       refine ⟨?_,?_,fun h0=>h.step k h0 aT,?_⟩
       ·rw [List.getElem?_eq_getElem aT];exact h.node _ (List.getElem_mem aT)
       ·have h1:=h.once
        rw [←List.take_append_drop (k+1) r.nodes,av.out] at h1
        exact (dZ.1 (List.nodup_append.1 h1).1).2
       rw [List.getElem?_eq_getElem aT];exact h.pins _ (List.getElem_mem aT)
      have hg:bQ d (r.nodes[k]?.getD 0)=true/\(0<k→(0<=r.from_[k]?.getD 0/\r.from_[k]?.getD 0<(k:Int))/\r.nodes[(r.from_[k]?.getD 0).toNat]?.getD 0∈fe d (r.nodes[k]?.getD 0))/\(r.nodes[k]?.getD 0 % aV d<5→r.nodes[k]?.getD 0∈Q)→∀j,j<k+1→bQ d (r.nodes[j]?.getD 0)=true/\(0<j→(0<=r.from_[j]?.getD 0/\r.from_[j]?.getD 0<(j:Int))/\r.nodes[(r.from_[j]?.getD 0).toNat]?.getD 0∈fe d (r.nodes[j]?.getD 0))/\(r.nodes[j]?.getD 0 % aV d<5→r.nodes[j]?.getD 0∈Q):=fun h=>bW aw.out h
      obtain ⟨D,HG⟩:=hd2 cj hg
      have df:Hid (∀j,j<k→j<I):=fun j hj=>by omega
      clear cj hg aT
      obtain ⟨n,hn⟩:∃n,r.nodes[k]?.getD 0=n:=⟨_,rfl⟩
      rw [hn] at cn av D HG
      obtain ⟨i0,i1⟩:=ib (by omega:k<I)
      clear hn
      have B:=cc.out
      have g:=ce.out
      obtain ⟨x0,x1,x2,x3⟩:=cs4 B
      obtain ⟨W,y1⟩:=cs2 g
      have R:=aC B
      have U:=aC g
      clear B g
      go_wp2_with fail
      refine (fV d n _).mono ?_
      cases bd:bQ d n with
      | false =>
       have HR:Hid (¬dB d src Q r):=fun h=>by have:=(D.out h).1;rw [this] at bd;cases bd
       rintro _ w2 ⟨rfl,b2⟩
       have bM:=Hd (aA aE.out b2)
       clear b2 cn HG D bd x0 x1 x2 x3 W y1 R U
       go_wp2_with fail
       go_ret
       exact ⟨aO HR.out,bM.out⟩
      | true =>
       have bs:=Hd (EX bd)
       rintro _ w2 ⟨rfl,b2⟩
       have b9:=Hd (HS.out.below b2)
       have bM:=Hd (aA aE.out b2)
       have dr:=Hd (aD b2 cc.out)
       have du:=Hd (aD b2 ce.out)
       have bc:=Hd bd
       have a3:=b9.out.look 0 rfl bs.out
       clear b2 cn bd x0 x1 x2 x3 W y1 R U
       by_cases hm:n∈r.nodes.take k
       ·have HR:Hid (¬dB d src Q r):=fun h=>(D.out h).2.1 hm
        rw [decide_eq_true hm] at a3
        clear HG D hm
        go_wp2_with fail
        go_ret
        exact ⟨aO HR.out,bM.out⟩
       rw [decide_eq_false hm] at a3
       have HM:=Hd hm
       clear hm
       go_wp2_with (at_mapUpdate;refine rE rfl _ _ _ rfl _ b9.out 0 wq.heap.size (r.nodes.take k) rfl rfl (by rw [List.length_take];omega) n rfl rfl bs.out ?_;intro w3 S3 cq;have a5:=Hd S3;clear S3 cq)
       clear a3
       dsimp only [Act.put]
       have B:=aD a5.out.bel ao.out
       have g:=aD a5.out.bel ap.out
       obtain ⟨x0,x1,x2,x3⟩:=cs4 B
       obtain ⟨W,y1⟩:=cs2 g
       have R:=aC B
       have U:=aC g
       clear B g
       by_cases b0:k=0
       ·have aq:Hid (0<k→(0<=r.from_[k]?.getD 0/\r.from_[k]?.getD 0<(k:Int))/\r.nodes[(r.from_[k]?.getD 0).toNat]?.getD 0∈fe d n):=fun h=>by omega
        have dk:decide ((0:Int)<(k:Int))=false:=decide_eq_false (by omega)
        have ct:decide (0<k)=false:=decide_eq_false (by omega)
        go_upto_region 10 with fail
        have u:=aY w3
        have K:=aP w3
        refine wpB w3 ?_
        repeat (go_big_quiet_step ((fail)))
        refine wpQuiet_nil ?_
        rintro _ ⟨⟨w5,G⟩,rfl⟩
        clear u K
        have Z:=Hd (a5.out.below G)
        clear G x0 x1 x2 x3 W y1 R U
        have aL:=Hd (aA HD.out Z.out.bel)
        have B:=aD Z.out.bel ao.out
        have g:=aD Z.out.bel ap.out
        obtain ⟨x0,x1,x2,x3⟩:=cs4 B
        obtain ⟨W,y1⟩:=cs2 g
        have R:=aC B
        have U:=aC g
        clear B g
        go_wp2_with fail
        refine (uE d n _).mono ?_
        rw [bc.out,Bool.true_and]
        by_cases h5:n % aV d<5
        ·rw [decide_eq_true h5]
         rintro _ w6 ⟨rfl,b6⟩
         have aS:=Hd (Z.out.below b6)
         have bm:=Hd (aA aL.out b6)
         clear b6 x0 x1 x2 x3 W y1 R U
         go_wp2_with fail
         refine (nK KA kn kc Q n _ (bl.out.below bm.out) bX).mono ?_
         by_cases hq:n∈Q
         ·rw [decide_eq_true hq]
          have ay:=Hd (HG.out ⟨bc.out,aq.out,fun _=>hq⟩)
          rintro _ w7 ⟨rfl,rfl⟩
          clear HG D hq h5
          go_wp2_with fail
          go_roundw
          ·exact ⟨k+1,by omega,by go_num,by rw [av.out];exact aS.out,ay.out,by rw [av.out,dZ];exact ⟨a6.out,HM.out⟩⟩
          simp [intOf];omega
         rw [decide_eq_false hq]
         have HR:Hid (¬dB d src Q r):=fun h=>hq ((D.out h).2.2.2 h5)
         rintro _ w7 ⟨rfl,rfl⟩
         clear HG D hq h5
         go_wp2_with fail
         go_ret
         exact ⟨aO HR.out,bm.out⟩
        rw [decide_eq_false h5]
        have ay:=Hd (HG.out ⟨bc.out,aq.out,fun h=>absurd h h5⟩)
        rintro _ w6 ⟨rfl,b6⟩
        have aS:=Hd (Z.out.below b6)
        clear b6 x0 x1 x2 x3 W y1 R U HG D h5
        go_wp2_with fail
        go_roundw
        ·exact ⟨k+1,by omega,by go_num,by rw [av.out];exact aS.out,ay.out,by rw [av.out,dZ];exact ⟨a6.out,HM.out⟩⟩
        simp [intOf];omega
       have bK:0<k:=by omega
       have dk:decide ((0:Int)<(k:Int))=true:=decide_eq_true (by omega)
       have ct:decide (0<k)=true:=decide_eq_true bK
       have bv:=Hd (aA HD.out a5.out.bel)
       have cf:=(bv.out.cell (p:=⟨bf,am+k,none⟩) bu).trans (b8.out k bP)
       have bo:=aK bv.out bu
       obtain ⟨f,hf⟩:∃f,r.from_[k]?.getD 0=f:=⟨_,rfl⟩
       rw [hf] at cf D HG
       have c9:=Hd hf
       clear hf
       have i3:(0:Int)<=(k:Int) - 1:=by omega
       cases hr:inR f 0 ((k:Int) - 1) with
       | false =>
        have HR:Hid (¬dB d src Q r):=fun h=>by
         have h2:=((D.out h).2.2.1 bK).1
         rw [aR.2 (by omega)] at hr
         cases hr
        have hI:=fun (x:Sub w3)=>aM f 0 ((k:Int) - 1) x.v
        rw [hr] at hI
        have HI:=Hd hI
        clear hr hI HG D b0
        go_upto_region 10 with fail
        have u:=aY w3
        have K:=aP w3
        refine wpB w3 ?_
        repeat (go_big_quiet_step ((first|(go_at_call 93;with_reducible exact aQ (HI.out _)))))
        refine wpQuiet_nil ?_
        rintro _ ⟨⟨w5,G⟩,rfl⟩
        clear u K
        have Z:=Hd (a5.out.below G)
        clear G x0 x1 x2 x3 W y1 R U
        have aL:=Hd (aA HD.out Z.out.bel)
        clear cf bo
        go_wp2_with fail
        go_ret
        exact ⟨aO HR.out,aL.out⟩
       | true =>
        have cF:=aR.1 hr
        obtain ⟨F,rfl⟩:∃F:Nat,f=(F:Int):=⟨f.toNat,by omega⟩
        have hF:F<k:=by omega
        have cy:=(bv.out.cell (p:=⟨bn,al+F,none⟩) a9).trans (bH.out F (by omega))
        have bA:=aK bv.out a9
        rw [Int.toNat_natCast] at D HG
        obtain ⟨y,g⟩:∃y,r.nodes[F]?.getD 0=y:=⟨_,rfl⟩
        rw [g] at cy D HG
        have dp:=Hd g
        have hI:=fun (x:World)=>aM (F:Int) 0 ((k:Int) - 1) x
        rw [hr] at hI
        have cL:=Hd hI
        obtain ⟨dg,iF⟩:=ib (by omega:F<I)
        have da:(F:Int)<(k:Int):=by omega
        clear hr cF g b0 hI
        have e3:IntKind.i64.wrap ((k:Int) - 1)=(k:Int) - 1:=IntWalk.i64_in _ (by omega)
        have ci:=Hd (fun (x:World) (_:Below w3.heap.size w3 x)=>sN d n x)
        have G:=(Below.refl w3.heap.size w3).drew
        have bj:Hid (∀w',Below w3.heap.size w3 w'→(KD w' w.heap.size d (w'.cell? ⟨w.heap.size+1,0,none⟩=some (.slice (some ⟨bn,al,none⟩) I nc)/\w'.cell? ⟨w.heap.size+1,1,none⟩=some (.slice (some ⟨bf,am,none⟩) I fc)/\w'.cell? ⟨bf,am+k,none⟩=some (.int .i64 (F:Int))/\w'.cell? ⟨bn,al+F,none⟩=some (.int .i64 y)))):=fun v hv=>⟨(hv.cell (p:=⟨w.heap.size,0,none⟩) R).trans x0,(hv.cell (p:=⟨w.heap.size,1,none⟩) R).trans x1,(hv.cell (p:=⟨w.heap.size,2,none⟩) R).trans x2,(hv.cell (p:=⟨w.heap.size,3,none⟩) R).trans x3,(hv.cell (p:=⟨w.heap.size+1,0,none⟩) U).trans W,(hv.cell (p:=⟨w.heap.size+1,1,none⟩) U).trans y1,(hv.cell (p:=⟨bf,am+k,none⟩) bo).trans cf,(hv.cell (p:=⟨bn,al+F,none⟩) bA).trans cy⟩
        obtain ⟨bb,bE⟩:∃b,decide (y∈fe d n)=b:=⟨_,rfl⟩
        have ca:=Hd bE
        have cw:=Hd (fun (A:Option Addr) (m c:Nat) (v:World) (h:dP v A m (fe d n)) (hm:m<=1048576)=>(by have h2:=nK A m c (fe d n) y v h hm;rwa [bE] at h2:Calls Tryz.prog 129 #[.slice A m c,.int .i64 y] v fun e w'=>e = .returned (.bool bb)/\v=w'))
        clear bE
        go_upto_region 10 with fail
        go_region_held3 (fun w'=>KD w' w.heap.size d (w'.cell? ⟨w.heap.size+1,0,none⟩=some (.slice (some ⟨bn,al,none⟩) I nc)/\w'.cell? ⟨w.heap.size+1,1,none⟩=some (.slice (some ⟨bf,am,none⟩) I fc)/\w'.cell? ⟨bf,am+k,none⟩=some (.int .i64 (F:Int))/\w'.cell? ⟨bn,al+F,none⟩=some (.int .i64 y)))
         (first|exact bj.out _ G)
         ((first
          | (go_at_call 93;(with_reducible refine (cL.out _).mono ?_);rintro _ wi ⟨rfl,rfl⟩)
          | (go_at_call 149;(with_reducible refine (ci.out _ G).mono ?_);rintro e5 w5 ⟨A5,n5,c5,rfl,o5,b5⟩;have O5:=Hd o5.ints;have cN:n5<=1048576:=(by have h5:=o5.len;have h6:=lm d n;omega);replace G:=aA G b5;clear b5 o5)
          | (go_at_call 129;(with_reducible refine (cw.out A5 n5 c5 _ O5.out cN).mono ?_);rintro _ wi ⟨rfl,rfl⟩)))
        have Z:=Hd (a5.out.below G)
        clear G x0 x1 x2 x3 W y1 R U cf bo cy bA bj e3
        cases bb with
        | true =>
         have cD:=of_decide_eq_true ca.out
         have aq:Hid (0<k→(0<=(F:Int)/\(F:Int)<(k:Int))/\y∈fe d n):=fun _=>⟨⟨by omega,by omega⟩,cD⟩
         have aL:=Hd (aA HD.out Z.out.bel)
         have B:=aD Z.out.bel ao.out
         have g:=aD Z.out.bel ap.out
         obtain ⟨x0,x1,x2,x3⟩:=cs4 B
         obtain ⟨W,y1⟩:=cs2 g
         have R:=aC B
         have U:=aC g
         clear B g
         go_wp2_with fail
         refine (uE d n _).mono ?_
         rw [bc.out,Bool.true_and]
         by_cases h5:n % aV d<5
         ·rw [decide_eq_true h5]
          rintro _ w6 ⟨rfl,b6⟩
          have aS:=Hd (Z.out.below b6)
          have bm:=Hd (aA aL.out b6)
          clear b6 x0 x1 x2 x3 W y1 R U
          go_wp2_with fail
          refine (nK KA kn kc Q n _ (bl.out.below bm.out) bX).mono ?_
          by_cases hq:n∈Q
          ·rw [decide_eq_true hq]
           have ay:=Hd (HG.out ⟨bc.out,aq.out,fun _=>hq⟩)
           rintro _ w7 ⟨rfl,rfl⟩
           clear HG D hq h5
           go_wp2_with fail
           go_roundw
           ·exact ⟨k+1,by omega,by go_num,by rw [av.out];exact aS.out,ay.out,by rw [av.out,dZ];exact ⟨a6.out,HM.out⟩⟩
           simp [intOf];omega
          rw [decide_eq_false hq]
          have HR:Hid (¬dB d src Q r):=fun h=>hq ((D.out h).2.2.2 h5)
          rintro _ w7 ⟨rfl,rfl⟩
          clear HG D hq h5
          go_wp2_with fail
          go_ret
          exact ⟨aO HR.out,bm.out⟩
         ·rw [decide_eq_false h5]
          have ay:=Hd (HG.out ⟨bc.out,aq.out,fun h=>absurd h h5⟩)
          rintro _ w6 ⟨rfl,b6⟩
          have aS:=Hd (Z.out.below b6)
          clear b6 x0 x1 x2 x3 W y1 R U HG D h5
          go_wp2_with fail
          go_roundw
          ·exact ⟨k+1,by omega,by go_num,by rw [av.out];exact aS.out,ay.out,by rw [av.out,dZ];exact ⟨a6.out,HM.out⟩⟩
          ·simp [intOf];omega
        | false =>
         have HR:Hid (¬dB d src Q r):=fun h=>of_decide_eq_false ca.out ((D.out h).2.2.1 bK).2
         clear HG D
         have aL:=Hd (aA HD.out Z.out.bel)
         go_wp2_with fail
         go_ret
         exact ⟨aO HR.out,aL.out⟩
     have bp:k=I:=by omega
     have cG:=dF (by omega:I<=k)
     have cK:Hid (r.nodes.take k=r.nodes):=by show _=_;rw [bp];exact List.take_of_length_le (by rw [HN.out.1];exact Nat.le_refl _)
     rw [cK.out] at HS a6
     rw [bp] at aw
     clear bp
     obtain ⟨wo,rfl⟩:∃x,x=wr:=⟨wr,rfl⟩
     go_wp2_with fail
     go_loopw [117] (fun i wr=>∃q:Nat,q<=kn/\i = .int .i64 (q:Int)/\wo=wr/\∀j,j<q→Q[j]?.getD 0∈r.nodes) (fun i _=>kn - (intOf i).toNat)
     ·exact ⟨0,by omega,rfl,rfl,fun j hj=>by omega⟩
     obtain ⟨q,hq,rfl,rfl,b3⟩:=hrel
     have bN:=Hd b3
     clear b3
     by_cases bD:q<kn
     ·have cv:=dT (by omega:q<kn)
      have bh:q<Q.length:=by rw [bl.out.1];exact bD
      obtain ⟨bk,ok,cg,cd,cb⟩:=bl.out.2 (by omega)
      have cO:=Hd cg
      have ck:=(aE.out.cell (p:=⟨bk,ok+q,none⟩) cd).trans (cb q bD)
      have dm:=aK aE.out cd
      have bq:=bs.out _ (List.getElem_mem bh)
      rw [show Q[q]=Q[q]?.getD 0 by rw [List.getElem?_eq_getElem bh];rfl] at bq
      have HG:Hid (Q[q]?.getD 0∈r.nodes→∀j,j<q+1→Q[j]?.getD 0∈r.nodes):=fun h=>bW bN.out h
      have D:Hid (Q[q]?.getD 0∉r.nodes→¬dB d src Q r):=fun h h'=>h (by rw [List.getElem?_eq_getElem bh];exact h'.sinks _ (List.getElem_mem bh))
      clear cb bh cg
      obtain rfl:=cO.out
      generalize Q[q]?.getD 0=s at *
      have a3:=HS.out.look 0 rfl bq
      obtain ⟨i0,i1⟩:=ib (by omega:q<kn)
      clear bq
      by_cases hm:s∈r.nodes
      ·have ay:=Hd (HG.out hm)
       rw [decide_eq_true hm] at a3
       clear HG D hm
       go_wp2_with fail
       go_roundw
       ·exact ⟨q+1,by omega,by go_num,by first|rfl|trivial,ay.out⟩
       simp [intOf];omega
      have HR:=Hd (D.out hm)
      rw [decide_eq_false hm] at a3
      clear HG D hm
      go_wp2_with fail
      go_ret
      exact ⟨aO HR.out,aE.out⟩
     have ch:q=kn:=by omega
     have cv:=dF (by omega:kn<=q)
     have HR:Hid (dB d src Q r):=by
      refine ⟨⟨by rw [HN.out.1];omega,by rw [HN.out.1];exact bT.out⟩,cJ.out,by rw [bL.out.1,HN.out.1],fun n hn=>?_,a6.out,bG.out,fun i h0 hi=>(aw.out i (by rw [←HN.out.1];exact hi)).2.1 h0,fun n hn h5=>?_,fun n hn=>?_⟩
      ·obtain ⟨j,hj,rfl⟩:=List.getElem_of_mem hn
       have h:=(aw.out j (by rw [←HN.out.1];exact hj)).1
       rwa [List.getElem?_eq_getElem hj] at h
      ·obtain ⟨j,hj,rfl⟩:=List.getElem_of_mem hn
       have h:=(aw.out j (by rw [←HN.out.1];exact hj)).2.2
       rw [List.getElem?_eq_getElem hj] at h
       exact h h5
      obtain ⟨j,hj,rfl⟩:=List.getElem_of_mem hn
      have h:=bN.out j (by rw [ch,←bl.out.1];exact hj)
      rwa [List.getElem?_eq_getElem hj] at h
     clear aw bN ch
     go_wp2_with fail
     go_ret
     exact ⟨dU HR.out,aE.out⟩
    have HR:Hid (¬dB d src Q r):=fun h=>c6 (by rw [←b7.out];exact h.root.2.1)
    have d6:(f0 != 0)=true:=by simp [c6]
    clear ax c6
    go_enter Tryz.func132,Tryz.ntmps132
    go_upto_region 1 with fail
    generalize (w.alloc (.cells (dv d) 36)).alloc (.cells #[.slice (some ⟨bn,al,none⟩) I nc,.slice (some ⟨bf,am,none⟩) I fc] 114)=J at *
    have B:=Y.out
    have g:=V.out
    obtain ⟨x0,x1,x2,x3⟩:=cs4 B
    obtain ⟨W,y1⟩:=cs2 g
    have R:=aC B
    have U:=aC g
    clear B g
    have ag:=Hd (fun (x:Sub J)=>gU d x.v)
    have H:=fun (x:Sub J)=>jK d src x.v
    rw [show (bQ d src && (decide (src % aV d=5) || decide (src % aV d=6)))=true from aX.out] at H
    have ai:=Hd H
    clear H
    have u:=aY J
    have K:=aP J
    refine wpB J ?_
    repeat (go_big_quiet_step ((first
     | (go_at_call 220;with_reducible exact aN (ag.out _))
     | (go_at_call 221;with_reducible exact aN (ai.out _)))))
    refine wpQuiet_nil ?_
    rintro _ ⟨⟨w5,G⟩,rfl⟩
    clear u K
    have HD:=Hd (aA ar.out G)
    have ao:=Hd (aD G Y.out)
    have ap:=Hd (aD G V.out)
    clear G x0 x1 x2 x3 W y1 R U a4 a2 aU aZ
    go_wp2_with fail
    go_ret
    exact ⟨aO HR.out,HD.out⟩
  have HR:Hid (¬dB d src Q r):=fun h=>c4 (by rw [←bY.out];exact h.root.1)
  have d4:(n0 != src)=true:=by simp [c4]
  clear c4
  go_enter Tryz.func132,Tryz.ntmps132
  go_upto_region 1 with fail
  generalize (w.alloc (.cells (dv d) 36)).alloc (.cells #[.slice (some ⟨bn,al,none⟩) I nc,.slice (some ⟨bf,am,none⟩) I fc] 114)=J at *
  have B:=Y.out
  have g:=V.out
  obtain ⟨x0,x1,x2,x3⟩:=cs4 B
  obtain ⟨W,y1⟩:=cs2 g
  have R:=aC B
  have U:=aC g
  clear B g
  have ag:=Hd (fun (x:Sub J)=>gU d x.v)
  have H:=fun (x:Sub J)=>jK d src x.v
  skip
  have ai:=Hd H
  clear H
  have u:=aY J
  have K:=aP J
  refine wpB J ?_
  repeat (go_big_quiet_step ((first
   | (go_at_call 220;with_reducible exact aN (ag.out _))
   | (go_at_call 221;with_reducible exact aN (ai.out _)))))
  refine wpQuiet_nil ?_
  rintro _ ⟨⟨w5,G⟩,rfl⟩
  clear u K
  have HD:=Hd (aA ar.out G)
  have ao:=Hd (aD G Y.out)
  have ap:=Hd (aD G V.out)
  clear G x0 x1 x2 x3 W y1 R U a4 a2 aU aZ
  go_wp2_with fail
  go_ret
  exact ⟨aO HR.out,HD.out⟩
 have HR:Hid (¬dB d src Q r):=fun h=>c3 (by rw [←bL.out.1,←HN.out.1];exact h.same)
 have d3:((fn:Int) != (I:Int))=true:=by simp;omega
 clear c3
 go_enter Tryz.func132,Tryz.ntmps132
 go_upto_region 1 with fail
 generalize (w.alloc (.cells (dv d) 36)).alloc (.cells #[.slice NA I nc,.slice FA fn fc] 114)=J at *
 have B:=Y.out
 have g:=V.out
 obtain ⟨x0,x1,x2,x3⟩:=cs4 B
 obtain ⟨W,y1⟩:=cs2 g
 have R:=aC B
 have U:=aC g
 clear B g
 have ag:=Hd (fun (x:Sub J)=>gU d x.v)
 have H:=fun (x:Sub J)=>jK d src x.v
 skip
 have ai:=Hd H
 clear H
 have u:=aY J
 have K:=aP J
 refine wpB J ?_
 repeat (go_big_quiet_step ((first
  | (go_at_call 220;with_reducible exact aN (ag.out _))
  | (go_at_call 221;with_reducible exact aN (ai.out _)))))
 refine wpQuiet_nil ?_
 rintro _ ⟨⟨w5,G⟩,rfl⟩
 clear u K
 have HD:=Hd (aA ar.out G)
 have ao:=Hd (aD G Y.out)
 have ap:=Hd (aD G V.out)
 clear G x0 x1 x2 x3 W y1 R U
 go_wp2_with fail
 go_ret
 exact ⟨aO HR.out,HD.out⟩
end Go.Proofs.YtofihjoanjkdmaaGreat
