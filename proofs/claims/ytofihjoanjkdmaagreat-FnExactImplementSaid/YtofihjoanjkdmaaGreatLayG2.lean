/- Placements and connections in the program: valid ones (printed by mkplc.py). -/
import Derived.Test.YtofihjoanjkdmaaGreatLayF7
import Derived.Test.YtofihjoanjkdmaaGreatRt5
namespace Go.Proofs.YtofihjoanjkdmaaGreat
set_option maxHeartbeats 4000000
set_option maxRecDepth 100000
open Go.RowKit
def lK(d:Dev)(t:Int):Int:=if ai d t=true then ah d t else -1
theorem qZ(d:Dev)(t:Int):0<=ah d t/\ah d t<=2:=by
 unfold ah
 split
 ·omega
 split <;> omega
theorem vG(k:Int):-1<=aW k/\aW k<=2:=by
 unfold aW
 split
 ·omega
 split
 ·omega
 split <;> omega
theorem FX{d:Dev}{t k:Int}(h:0<=k):lK d t=k↔ai d t=true/\ah d t=k:=by
 unfold lK
 split
 ·rename_i h1;exact⟨fun h2=>⟨h1,h2⟩,fun h2=>h2.2⟩
 rename_i h1;exact⟨fun h2=>by omega,fun h2=>absurd h2.1 h1⟩
theorem kG(k:Int)(w:World) :
  Calls Tryz.prog 127 #[.int .i64 k] w fun e w'=>e=.returned (.int .i64 (aW k))/\w=w':=by
 by_cases h0:k=0
 ·subst h0;go_enter Tryz.func127,Tryz.ntmps127;go_wp2;go_ret;exact⟨rfl,rfl⟩
 by_cases h1:k=1
 ·subst h1;go_enter Tryz.func127,Tryz.ntmps127;go_wp2;go_ret;exact⟨rfl,rfl⟩
 by_cases h2:k=2
 ·subst h2;go_enter Tryz.func127,Tryz.ntmps127;go_wp2;go_ret;exact⟨rfl,rfl⟩
 by_cases h3:k=3
 ·subst h3;go_enter Tryz.func127,Tryz.ntmps127;go_wp2;go_ret;exact⟨rfl,rfl⟩
 have g:Hv (aW k=-1):=Hd<|by show _=_;unfold aW;rw[if_neg (by omega),if_neg h2,if_neg h3]
 have j:(k==0)=false:=by simp[h0]
 have q:(k==1)=false:=by simp[h1]
 have d2:(k==2)=false:=by simp[h2]
 have d3:(k==3)=false:=by simp[h3]
 clear h0 h1 h2 h3;go_enter Tryz.func127,Tryz.ntmps127;go_wp2;go_ret;exact⟨aQ g.1.symm,rfl⟩
theorem FY(bs:List Blk)(BA:Oh)(bn bc:Nat)(w:World)(W:RdC w w.heap.size (aa bs) (.slice BA bn bc))(hn:bn<=1048576) :
  Calls Tryz.prog 49 #[.slice BA bn bc] w fun e w'=>∃A c,e=.returned (.slice A bn c)/\Own w.heap.size w' A bn c (bs.map Blk.kind)/\Below w.heap.size w w':=by
 have z:=W.blkN;obtain⟨G,HB⟩:=hd2 z W;clear W z;go_enter Tryz.func49,Tryz.ntmps49;go_wp2
 go_loopw[3,8] (fun v i wr=>∃(k:Nat) (A:Oh) (c:Nat),k<=bn/\i=.int .i64 (k:Int)/\v=.slice A k c/\aD w wr [.cel (aI ((bs.take k).map Blk.kind)) (.slice A k c)]) (fun _ i _=>bn-(intOf i).toNat)
 ·exact⟨0,none,0,by omega,rfl,rfl,(aD.refl w).pushNil 3 1⟩
 obtain⟨k,A1,I,hk,rfl,rfl,hs⟩:=hrel;have D:=Hd hs;clear hs;by_cases ae:k<bn
 ·have R:=dT (by omega:k<bn);have u:k<bs.length:=by rw[G.1];exact ae
  obtain⟨V,K,EA,J,Z,rfl,q,c0,c1,c2,r2⟩:=HB.1.blk (k:=k) u;have g:=D.1.bel;have aj:=aJ g q;rw[←g.cell (p:=⟨V,K+k*3,none⟩) q]at c0;rw[←g.cell (p:=⟨V,K+k*3+1,none⟩) q]at c1;rw[←g.cell (p:=⟨V,K+k*3+2,none⟩) q]at c2;have j:=Hd (show(bs.take (k+1)).map Blk.kind=(bs.take k).map Blk.kind++[(bs[k]?.getD Blk.zero).kind] from by rw[oN u,List.map_append];rfl);clear u g r2;generalize bs[k]?.getD Blk.zero=b at *;obtain⟨H,U,es⟩:=b;simp only at c0 c1 j;obtain⟨i0,i1⟩:=ib (by omega:k<bn);have HA:=Hd (D.1.alloc (.cells #[.int .i64 H,.int .i64 U,.slice EA J Z] 89));obtain⟨y0,ly⟩:=yU (aG wr (.cells #[.int .i64 H,.int .i64 U,.slice EA J Z] 89));go_upto_region 5 with fail;generalize wr.alloc (.cells #[.int .i64 H,.int .i64 U,.slice EA J Z] 89)=W5 at *
  go_wp2_with (at_builtin;refine bP rfl _ _ rfl _ (HA.1.alloc _) 0 A1 k I ((bs.take k).map Blk.kind) H _ (0,0) rfl rfl rfl (aG _ _) (by omega) ?_;intro g9 cap w9 S9 Y;have Q:=Hd S9;clear S9 Y)
  go_roundw
  ·exact⟨k+1,_,_,by omega,by go_num,rfl,by rw[j.1];exact Q.1⟩
  simp[intOf];omega
 have B:k=bn:=by omega
 have R:=dF (by omega:bn<=k);have j:Hv (bs.take k=bs):=Hd<|by show _=_;rw[B];exact List.take_of_length_le (by rw[G.1];exact Nat.le_refl _)
 rw[j.1]at D;subst B;go_wp2;go_ret;exact⟨_,_,rfl,D.1.owned 0 rfl,D.1.bel⟩
theorem Aq(d:Dev)(t:Int)(w:World) :
  Calls Tryz.prog 128 #[.agg (dv d),.int .i64 t] w fun e w'=>e=.returned (.int .i64 (lK d t))/\Below w.heap.size w w':=by
 have q:=Hd (aB (Below.refl w.heap.size w) (.cells (dv d) 36));have u:=Hd (aG w (.cells (dv d) 36));obtain⟨D,H,z,B,G⟩:=bA (u.1)
 cases ht:ai d t with
 | false =>
  have K:Hv (lK d t=-1):=Hd<|by show _=_;unfold lK;rw[ht];rfl
  have J:=Hd ht;clear ht;go_enter Tryz.func128,Tryz.ntmps128;go_upto_region 1 with fail;generalize w.alloc (.cells (dv d) 36)=R at *;go_wp2_with fail;refine(pJ d t _).mono ?_;rw[J.1];rintro _ U ⟨rfl,j⟩;have g:=Hd (aA q.1 j);clear j D H z B G;go_wp2;go_ret
  exact⟨aQ K.1.symm,g.1⟩
 | true =>
  have K:Hv (lK d t=ah d t):=Hd<|by show _=_;unfold lK;rw[if_pos ht]
  have J:=Hd ht;obtain⟨hd,h0,h1⟩:=aP.1 ht;have h2:=eu hd;have V:=Hd hd;have h3:t<=1099511627776:=by omega
  clear ht hd h1 h2;go_enter Tryz.func128,Tryz.ntmps128;go_upto_region 1 with fail;generalize w.alloc (.cells (dv d) 36)=R at *;go_wp2_with fail;refine(pJ d t _).mono ?_;rw[J.1];rintro _ U ⟨rfl,j⟩;have g:=Hd (aA q.1 j);have hx:=aF j u.1;clear j D H z B G;obtain⟨D,H,z,B,G⟩:=bA hx;clear hx;go_wp2_with fail;refine(lw d t _ V.1 h0 h3).mono ?_;rintro _ W ⟨rfl,Q⟩;have I:=Hd (aA g.1 Q);clear Q D H z B G;go_wp2;go_ret;exact⟨aQ K.1.symm,I.1⟩
theorem FZ(d:Dev)(kinds place:List Int)(KA PA:Oh)(kn kc pn pc:Nat)(w:World)(hk:bT w KA kn kinds)(hp:bT w PA pn place)(a6:pn<=pc)(a5:pc<=1048576) :
  Calls Tryz.prog 48 #[.agg (dv d),.slice KA kn kc,.slice PA pn pc] w fun e w'=>e=.returned (.bool (tb (dA d kinds place)))/\Below w.heap.size w w':=by
 have ae:=Hd (aB (Below.refl w.heap.size w) (.cells (dv d) 36));have K:=Hd (aG w (.cells (dv d) 36));obtain⟨HK,HP⟩:=hd2 hk hp;clear hk hp
 cases I:bQ d with
 | false =>
  have H:Hv (¬dA d kinds place):=Hd<|fun h=>by rw[h.dev]at I;cases I
  have HD:=Hd I;clear I;go_enter Tryz.func48,Tryz.ntmps48;go_upto_region 1 with fail;generalize w.alloc (.cells (dv d) 36)=W0 at *;obtain⟨Z,W,Y,U,V⟩:=bA (K.1);go_wp2_with fail;refine(eG d _).mono ?_;rw[HD.1];rintro _ w1 ⟨rfl,J⟩;have B:=Hd (aA ae.1 J);clear J Z W Y U V;go_wp2;go_ret
  exact⟨bg H.1,B.1⟩
 | true =>
  have af:=Hd I;clear I;by_cases aw:kn<=64
  ·have aM:decide ((64:Int)<(kn:Int))=false:=decide_eq_false (by omega);by_cases al:pn=kn
   ·subst al;have dn:((pn:Int) != (pn:Int))=false:=by simp
    go_enter Tryz.func48,Tryz.ntmps48;go_upto_region 1 with fail;generalize w.alloc (.cells (dv d) 36)=W0 at *;obtain⟨Z,W,Y,U,V⟩:=bA (K.1);go_wp2_with fail;refine(eG d _).mono ?_;rw[af.1];rintro _ w1 ⟨rfl,J⟩;have B:=Hd (aA ae.1 J);have aL:=Hd (aF J K.1);clear J Z W Y U V;go_wp2
    go_loopw[27] (fun i wr=>∃k:Nat,k<=pn/\i=.int .i64 (k:Int)/\Below w1.heap.size w1 wr/\(∀j,j<k→ai d (place[j]?.getD 0)=true/\ah d (place[j]?.getD 0)=aW (kinds[j]?.getD 0))/\(place.take k).Nodup) (fun i _=>pn-(intOf i).toNat)
    ·exact⟨0,by omega,rfl,Below.refl _ _,fun j hj=>by omega,by simp⟩
    obtain⟨k,hk,rfl,hb,ag⟩:=hrel;obtain⟨HB,q⟩:=hd2 hb ag;have g:=Hd (aA B.1 hb);clear hb ag;by_cases ad:k<pn
    ·have aN:=dT (by omega:k<pn);obtain⟨bp,op,aE,au,aC⟩:=HP.1.2 (by omega);obtain⟨bk,ok,aI,av,ay⟩:=HK.1.2 (by omega);obtain⟨aR,aQ⟩:=hd2 aE aI;have cp:=(g.1.cell (p:=⟨bp,op+k,none⟩) au).trans (aC k ad);have ck:=(g.1.cell (p:=⟨bk,ok+k,none⟩) av).trans (ay k ad);have a8:=aJ g.1 au;have bh:=aJ g.1 av;have aV:=Hd (HP.1.take (k:=k) (by omega));have aD:k<place.length:=by rw[HP.1.1];exact ad
     have aK:=Hd (bF (z:=0) aD);have az:¬(ai d (place[k]?.getD 0)=true/\ah d (place[k]?.getD 0)=aW (kinds[k]?.getD 0))→¬dA d kinds place:=fun h h'=>h (h'.tile k (by rw[HK.1.1];exact ad));have u:=Hd az
     have ax:place[k]?.getD 0∈place.take k→¬dA d kinds place:=fun h h'=>by
      have h1:=h'.once;rw[←List.take_append_drop (k+1) place,aK.1]at h1;exact(mM.1 (List.nodup_append.1 h1).1).2 h
     have R:=Hd ax;have hG:ai d (place[k]?.getD 0)=true/\ah d (place[k]?.getD 0)=aW (kinds[k]?.getD 0)→place[k]?.getD 0∉place.take k→(∀j,j<k+1→ai d (place[j]?.getD 0)=true/\ah d (place[j]?.getD 0)=aW (kinds[j]?.getD 0))/\(place.take (k+1)).Nodup:=fun h1 h2=>⟨fQ q.1.1 h1,by rw[aK.1,mM];exact⟨q.1.2,h2⟩⟩;have HG:=Hd hG;clear aC ay aD az ax hG aE aI;obtain rfl:=aR.1;obtain rfl:=aQ.1;generalize place[k]?.getD 0=t at *;generalize kinds[k]?.getD 0=kd at *;have aZ:=vG kd;obtain⟨bt,Q⟩:∃b,aW kd=b:=⟨_,rfl⟩;rw[Q]at aZ u HG;have aX:=Hd Q;clear Q;obtain⟨i0,i1⟩:=ib (by omega:k<pn);have i2:(k:Int)<=(pc:Int):=by omega
     obtain⟨Z,W,Y,U,V⟩:=bA (aF HB.1 aL.1);go_wp2_with fail;refine(kG kd _).mono ?_;rw[aX.1];rintro _ w2 ⟨rfl,rfl⟩;by_cases h0:bt<0
     ·have H:Hv (¬dA d kinds place):=Hd<|u.1 fun h=>by have:=qZ d t;omega
      have d0:decide (bt<0)=true:=decide_eq_true h0;clear HG u R;go_wp2;go_ret;exact⟨bg H.1,g.1⟩
     have d0:decide (bt<0)=false:=decide_eq_false h0;go_wp2_with fail;refine(Aq d t _).mono ?_;by_cases G:lK d t=bt
     ·have aP:=Hd ((FX (by omega)).1 G);rw[G];have dk:(bt != bt)=false:=by simp
      clear G;rintro _ w3 ⟨rfl,b3⟩;have aO:=Hd (aA HB.1 b3);have D:=Hd (aA g.1 b3);clear b3 Z W Y U V cp ck;go_wp2_with fail;refine(mZ _ k pc _ t _ (aV.1.below D.1) (by omega)).mono ?_;rintro _ w4 ⟨rfl,rfl⟩;by_cases hm:t∈place.take k
      ·have H:Hv (¬dA d kinds place):=Hd<|R.1 hm
       rw[decide_eq_true hm];clear HG u R hm;go_wp2;go_ret;exact⟨bg H.1,D.1⟩
      have aS:=Hd (HG.1 aP.1 hm);rw[decide_eq_false hm];clear HG u R hm;go_wp2;go_roundw
      ·exact⟨k+1,by omega,by go_num,aO.1,aS.1⟩
      simp[intOf];omega
     have H:Hv (¬dA d kinds place):=Hd<|u.1 fun h=>G ((FX (by omega)).2 h)
     have dk:(lK d t != bt)=true:=by simp[G]
     clear HG u R G;rintro _ w3 ⟨rfl,b3⟩;have D:=Hd (aA g.1 b3);clear b3 Z W Y U V cp ck;go_wp2;go_ret;exact⟨bg H.1,D.1⟩
    have aj:k=pn:=by omega
    have aN:=dF (by omega:pn<=k)
    have H:Hv (dA d kinds place):=Hd<|⟨af.1,by rw[HK.1.1];exact aw,by rw[HP.1.1,HK.1.1],fun j hj=>q.1.1 j (by rw[aj,←HK.1.1];exact hj),by
     have h:=q.1.2
     rwa[aj,List.take_of_length_le (by rw[HP.1.1];exact Nat.le_refl _)]at h⟩
    clear q aj;go_wp2;go_ret;exact⟨mY H.1,g.1⟩
   have H:Hv (¬dA d kinds place):=Hd<|fun h=>al (by rw[←HP.1.1,←HK.1.1];exact h.same)
   have dn:((pn:Int) != (kn:Int))=true:=by simp;omega
   clear al;go_enter Tryz.func48,Tryz.ntmps48;go_upto_region 1 with fail;generalize w.alloc (.cells (dv d) 36)=W0 at *;obtain⟨Z,W,Y,U,V⟩:=bA (K.1);go_wp2_with fail;refine(eG d _).mono ?_;rw[af.1];rintro _ w1 ⟨rfl,J⟩;have B:=Hd (aA ae.1 J);clear J Z W Y U V;go_wp2;go_ret;exact⟨bg H.1,B.1⟩
  have H:Hv (¬dA d kinds place):=Hd<|fun h=>aw (by rw[←HK.1.1];exact h.len)
  have aM:decide ((64:Int)<(kn:Int))=true:=decide_eq_true (by omega);go_enter Tryz.func48,Tryz.ntmps48;go_upto_region 1 with fail;generalize w.alloc (.cells (dv d) 36)=W0 at *;obtain⟨Z,W,Y,U,V⟩:=bA (K.1);go_wp2_with fail;refine(eG d _).mono ?_;rw[af.1];rintro _ w1 ⟨rfl,J⟩;have B:=Hd (aA ae.1 J);clear J Z W Y U V;go_wp2;go_ret;exact⟨bg H.1,B.1⟩
theorem Bq(n a b:Int)(w:World)(hn:0<=n/\n<=64) :
  Calls Tryz.prog 218 #[.int .i64 n,.agg #[.int .i64 a,.int .i64 b]] w fun e w'=>e=.returned (.bool (tb (iA n ⟨a,b⟩)))/\Below w.heap.size w w':=by
 have g:=Hd (aB (Below.refl w.heap.size w) (.cells #[.int .i64 a,.int .i64 b] 100));have u:Hv (iA n ⟨a,b⟩↔(0<=a/\a<n)/\0<=b/\b<=4):=Hd<|Iff.rfl
 cases hr:inR a 0 (n-1)with
 | false =>
  have q:Hv (¬iA n ⟨a,b⟩):=Hd<|fun h=>by
   have h2:=(u.1.1 h).1;rw[aR.2 (by omega)]at hr
   cases hr
  have j:=Hd hr;clear hr;go_enter Tryz.func218,Tryz.ntmps218;go_wp2_with fail;refine(aM a 0 (n-1) _).mono ?_;rw[j.1];rintro _ w' ⟨rfl,rfl⟩;go_wp2;go_ret
  exact⟨bg q.1,g.1⟩
 | true =>
  have z:=aR.1 hr;have j:=Hd hr;have q:Hv (inR b 0 4=tb (iA n ⟨a,b⟩)):=Hd<|Nr (by rw[aR,u.1];omega)
  clear hr z;go_enter Tryz.func218,Tryz.ntmps218;go_wp2_with fail;refine(aM a 0 (n-1) _).mono ?_;rw[j.1];rintro _ w' ⟨rfl,rfl⟩;go_wp2_with fail;refine(aM b 0 4 _).mono ?_;rintro _ w' ⟨rfl,rfl⟩;go_wp2;go_ret;exact⟨fH q.1,g.1⟩
theorem qD(n:Int)(cs:List Cn)(CA:Oh)(cn cc:Nat)(w:World)(hC:RdC w w.heap.size (bL cs) (.slice CA cn cc))(ap:∀c∈cs,c.sinks.length<=1048576) :
  Calls Tryz.prog 130 #[.int .i64 n,.slice CA cn cc] w fun e w'=>e=.returned (.bool (tb (dW n cs)))/\Below w.heap.size w w':=by
 have U:=hC.cnN;obtain⟨ae,HC,aT⟩:=hd3 U hC ap;clear hC ap
 cases hr:inR n 0 64 with
 | false =>
  have I:Hv (¬dW n cs):=Hd<|fun h=>by rw[aR.2 h.blocks]at hr;cases hr
  have H1:=Hd hr;clear hr;go_enter Tryz.func130,Tryz.ntmps130;go_wp2_with fail;refine(aM n 0 64 _).mono ?_;rw[H1.1];rintro _ w' ⟨rfl,rfl⟩;go_wp2;go_ret
  exact⟨bg I.1,Below.refl _ _⟩
 | true =>
  have hn:=aR.1 hr;have H1:=Hd hr;clear hr;by_cases Y:cn<=100
  ·have ay:decide ((100:Int)<(cn:Int))=false:=decide_eq_false (by omega);clear U;go_enter Tryz.func130,Tryz.ntmps130;go_wp2_with fail;refine(aM n 0 64 _).mono ?_;rw[H1.1];rintro _ w' ⟨rfl,rfl⟩;go_wp2
   go_loopw[19] (fun i wr=>∃k:Nat,k<=cn/\i=.int .i64 (k:Int)/\Below w.heap.size w wr/\∀j,j<k→nD n (cs[j]?.getD Cn.zero)) (fun i _=>cn-(intOf i).toNat)
   ·exact⟨0,by omega,rfl,Below.refl _ _,fun j hj=>by omega⟩
   obtain⟨k,hk,rfl,hb,g⟩:=hrel;obtain⟨z,K⟩:=hd2 hb g;clear hb g;by_cases aS:k<cn
   ·have aP:=dT (by omega:k<cn);have G:k<cs.length:=by rw[ae.1];exact aS
    obtain⟨bc,oc,SA,m,mc,az,R,c0,c1,c2,c3,rs⟩:=HC.1.cn (k:=k) G;have aK:=Hd az;have ah:=aJ z.1 R;rw[←z.1.cell (p:=⟨bc,oc+k*4,none⟩) R]at c0;rw[←z.1.cell (p:=⟨bc,oc+k*4+1,none⟩) R]at c1;rw[←z.1.cell (p:=⟨bc,oc+k*4+2,none⟩) R]at c2;rw[←z.1.cell (p:=⟨bc,oc+k*4+3,none⟩) R]at c3;have hg:nD n (cs[k]?.getD Cn.zero)→∀j,j<k+1→nD n (cs[j]?.getD Cn.zero):=fun h=>fQ K.1 h;have aC:dW n cs→nD n (cs[k]?.getD Cn.zero):=fun h=>by rw[List.getElem?_eq_getElem G];exact h.fit _ (List.getElem_mem G)
    have B:=aT.1 _ (List.getElem_mem G);rw[show cs[k]=cs[k]?.getD Cn.zero by rw[List.getElem?_eq_getElem G];rfl]at B;obtain⟨Z,W⟩:=hd2 hg aC;clear G hg aC az;obtain rfl:=aK.1;generalize cs[k]?.getD Cn.zero=c at *;obtain⟨N,⟨a,b⟩,ss⟩:=c;simp only at c0 c1 c2 c3 B;have av:=Hd (show RdC w w.heap.size (aZ ss) (.slice SA m mc) from rs);have D:Hv (ss.length=m):=Hd<|av.1.pinN
    have hm:m<=1048576:=by rw[←D.1];exact B
    obtain⟨i0,i1⟩:=ib (by omega:k<cn);have hy:=aG wr (.cells #[.int .i64 N,.int .i64 a,.int .i64 b,.slice SA m mc] 158);have aW:=Hd hy;obtain⟨y0,y1,y2,y3,ly⟩:=bA hy;have Q:=Hd (aB z.1 (.cells #[.int .i64 N,.int .i64 a,.int .i64 b,.slice SA m mc] 158));clear hy rs B;go_upto_region 6 with fail;generalize wr.alloc (.cells #[.int .i64 N,.int .i64 a,.int .i64 b,.slice SA m mc] 158)=W6 at *
    cases u:inR (m:Int) 1 120 with
    | false =>
     have I:Hv (¬dW n cs):=Hd<|fun h=>by
      have h2:=(W.1 h).len;change 1<=ss.length/\ss.length<=120 at h2;rw[D.1]at h2;rw[aR.2 (by omega)]at u
      cases u
     have H2:=Hd u;clear u Z W;go_wp2_with fail;refine(aM (m:Int) 1 120 _).mono ?_;rw[H2.1];rintro _ w' ⟨rfl,rfl⟩;clear y0 y1 y2 y3 ly c0 c1 c2 c3 ah;go_wp2;go_ret
     exact⟨bg I.1,Q.1⟩
    | true =>
     have a8:=aR.1 u;have H2:=Hd u;clear u;go_wp2_with fail;refine(aM (m:Int) 1 120 _).mono ?_;rw[H2.1];rintro _ w' ⟨rfl,rfl⟩;go_wp2_with fail;refine(Bq n a b _ hn).mono ?_;by_cases hf:iA n ⟨a,b⟩
     ·rw[bZ hf];have aV:Hv ((∀p∈ss,iA n p)→∀j,j<k+1→nD n (cs[j]?.getD Cn.zero)):=Hd<|fun h=>Z.1 ⟨⟨by show 1<=ss.length;rw[D.1];omega,by show ss.length<=120;rw[D.1];omega⟩,hf,h⟩
      rintro _ w4 ⟨rfl,H⟩;have ag:=Hd (aA Q.1 H);have hy:=aF H aW.1;clear H y0 y1 y2 y3 ly c0 c1 c2 c3 ah Z hf;obtain⟨-,-,-,y3,ly⟩:=bA hy;clear hy;go_wp2_with fail;clear y3 ly
      go_loopw[38] (fun i wr=>∃j:Nat,j<=m/\i=.int .i64 (j:Int)/\Below w.heap.size w wr/\∀q,q<j→iA n (ss[q]?.getD aL.zero)) (fun i _=>m-(intOf i).toNat)
      ·exact⟨0,by omega,rfl,ag.1,fun q hq=>by omega⟩
      obtain⟨j,hj,rfl,hb,g⟩:=hrel;obtain⟨J,ai⟩:=hd2 hb g;clear hb g;by_cases am:j<m
      ·have aX:=dT (by omega:j<m);have V:j<ss.length:=by rw[D.1];exact am
       obtain⟨bp,op,ax,ad,d0,d1⟩:=av.1.pin (k:=j) V;have aQ:=Hd ax;have au:=aJ J.1 ad;rw[←J.1.cell (p:=⟨bp,op+j*2,none⟩) ad]at d0;rw[←J.1.cell (p:=⟨bp,op+j*2+1,none⟩) ad]at d1;have Z:Hv (iA n (ss[j]?.getD aL.zero)→∀q,q<j+1→iA n (ss[q]?.getD aL.zero)):=Hd<|fun h=>fQ ai.1 h
       have HN:Hv (¬iA n (ss[j]?.getD aL.zero)→¬dW n cs):=Hd<|fun h h'=>h (by
        rw[List.getElem?_eq_getElem V]
        exact(W.1 h').sinks _ (List.getElem_mem V))
       clear V ax;obtain rfl:=aQ.1;generalize ss[j]?.getD aL.zero=s at *;obtain⟨x,y⟩:=s;simp only at d0 d1;obtain⟨i2,i3⟩:=ib (by omega:j<m);have hq:=aG wr (.cells #[.int .i64 x,.int .i64 y] 100);obtain⟨q0,q1,lq⟩:=iC hq;have al:=Hd (aB J.1 (.cells #[.int .i64 x,.int .i64 y] 100));clear hq;go_wp2_with fail;refine(Bq n x y _ hn).mono ?_;by_cases hf:iA n ⟨x,y⟩
       ·rw[bZ hf];have af:=Hd (Z.1 hf);rintro _ w4 ⟨rfl,H⟩;have aj:=Hd (aA al.1 H);clear H q0 q1 lq d0 d1 Z HN hf au;go_wp2;go_roundw
        ·exact⟨j+1,by omega,by go_num,aj.1,af.1⟩
        simp[intOf];omega
       rw[dU hf];have I:=Hd (HN.1 hf);rintro _ w4 ⟨rfl,H⟩;have aj:=Hd (aA al.1 H);clear H q0 q1 lq d0 d1 Z HN hf au;go_wp2;go_ret;exact⟨bg I.1,aj.1⟩
      have aq:j=m:=by omega
      have aX:=dF (by omega:m<=j)
      have af:=Hd (aV.1 (fun p hp=>by
       obtain⟨q,hq,rfl⟩:=List.getElem_of_mem hp;have h:=ai.1 q (by rw[aq,←D.1];exact hq)
       rwa[List.getElem?_eq_getElem hq]at h))
      clear ai aq;go_wp2;go_roundw
      ·exact⟨k+1,by omega,by go_num,J.1,af.1⟩
      simp[intOf];omega
     rw[dU hf];have I:Hv (¬dW n cs):=Hd<|fun h=>hf (W.1 h).src
     rintro _ w4 ⟨rfl,H⟩;have ag:=Hd (aA Q.1 H);clear H y0 y1 y2 y3 ly c0 c1 c2 c3 ah Z hf;go_wp2;go_ret;exact⟨bg I.1,ag.1⟩
   have ao:k=cn:=by omega
   have aP:=dF (by omega:cn<=k)
   have I:Hv (dW n cs):=Hd<|⟨hn,by rw[ae.1];exact Y,fun c hc=>by
    obtain⟨j,hj,rfl⟩:=List.getElem_of_mem hc;have h:=K.1 j (by rw[ao,←ae.1];exact hj)
    rwa[List.getElem?_eq_getElem hj]at h⟩
   clear K ao;go_wp2;go_ret;exact⟨mY I.1,z.1⟩
  have I:Hv (¬dW n cs):=Hd<|fun h=>Y (by rw[←U];exact h.len)
  have ay:decide ((100:Int)<(cn:Int))=true:=decide_eq_true (by omega);clear U;go_enter Tryz.func130,Tryz.ntmps130;go_wp2_with fail;refine(aM n 0 64 _).mono ?_;rw[H1.1];rintro _ w' ⟨rfl,rfl⟩;go_wp2;go_ret;exact⟨bg I.1,Below.refl _ _⟩
end Go.Proofs.YtofihjoanjkdmaaGreat
