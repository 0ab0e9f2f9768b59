/- Routing nodes of pins in the reference. -/
import Derived.Test.YtofihjoanjkdmaaGreatBrow
import Derived.Test.YtofihjoanjkdmaaGreatLayG4
import Derived.Test.YtofihjoanjkdmaaGreatRtS
namespace Go.Proofs.YtofihjoanjkdmaaGreat
set_option maxHeartbeats 4000000
set_option maxRecDepth 100000
open Go.RowKit
theorem lH(d:Dev)(t:Int)(w:World) :
  Calls Tryz.prog 113 #[.agg (dv d),.int .i64 t] w fun e w'=>e=.returned (.int .i64 (lK d t))/\Below w.heap.size w w':=by
 by_cases hb:t<=1099511627776
 ·cases ht:ai d t with
  | false =>
   have h:=uh d t w ht hb
   rwa[show lK d t=-1 by unfold lK;rw[ht];rfl]
  | true =>
   have h:=iG d t w ht;rwa[show lK d t=ah d t by unfold lK;rw[if_pos ht]]
 have j:Hv (lK d t=-1):=Hd<|by
  show _=_;unfold lK;rw[if_neg];intro h;obtain⟨hd,h0,h1⟩:=aP.1 h;have:=eu hd;omega
 go_enter Tryz.func113,Tryz.ntmps113;go_wp2_with fail;refine(dw d _).mono ?_;rintro e R ⟨rfl,g⟩;obtain⟨hcc,K⟩:=az g;have q:=Hd (aA (aB (Below.refl _ _) _) g);clear g
 cases hd:bQ d with
 | false =>
  clear hd;go_wp2;go_ret
  exact⟨aQ j.1.symm,q.1⟩
 | true =>
  obtain⟨J,I,z⟩:=jQ hd;obtain⟨u,G,Q,B,_⟩:=ak hd;have D:=eu hd;clear hd J;have h0:¬t<0:=by omega
  have h1:t≥d.W*d.H:=by omega
  go_wp2;go_ret;exact⟨aQ j.1.symm,q.1⟩
theorem JH(d:Dev)(t p:Int)(w:World) :
  Calls Tryz.prog 206 #[.agg (dv d),.int .i64 t,.int .i64 p] w fun e w'=>e=.returned (.int .i64 (qB d t p))/\Below w.heap.size w w':=by
 have G:Hv (qB d t p=if ai d t=true/\0<=p/\p<jK (ah d t)then t*ag d+p else -1):=Hd<|rfl
 have q:=Hd (aB (Below.refl w.heap.size w) (.cells (dv d) 36));by_cases j:p<0
 ·have B:Hv (qB d t p=-1):=Hd<|by show _=_;rw[G.1,if_neg];rintro⟨_,h0,_⟩;omega
  have dp:decide (p<0)=true:=decide_eq_true j;clear j;go_enter Tryz.func206,Tryz.ntmps206;go_wp2;go_ret;exact⟨aQ B.1.symm,q.1⟩
 have dp:decide (p<0)=false:=decide_eq_false j
 cases ht:ai d t with
 | false =>
  have B:Hv (qB d t p=-1):=Hd<|by show _=_;rw[G.1,if_neg];rintro⟨h0,_⟩;rw[ht]at h0;cases h0
  have z:Hv (lK d t=-1):=Hd<|by show _=_;unfold lK;rw[ht];rfl
  have dq:decide (p≥0)=true:=decide_eq_true (by omega);have Z:decide (0<=p)=true:=decide_eq_true (by omega);clear j ht;go_enter Tryz.func206,Tryz.ntmps206;go_wp2_with fail;refine(lH d t _).mono ?_;rw[z.1];rintro _ w2 ⟨rfl,u⟩;have g:=Hd (aA q.1 u);clear u;go_wp2_with fail;refine(si (-1) _).mono ?_;rw[show jK (-1)=0 from rfl];rintro _ U ⟨rfl,rfl⟩;go_wp2;go_ret
  exact⟨aQ B.1.symm,g.1⟩
 | true =>
  have z:Hv (lK d t=ah d t):=Hd<|by show _=_;unfold lK;rw[if_pos ht]
  obtain⟨hd,H,ad⟩:=aP.1 ht;have af:=eu hd;have hT:=ak hd;have hp:=fT hd;have W:=uN d t;have HM:=Hd (iB H (show t<=35 by omega) (show 0<=ag d by omega) hp.2);have HT:=Hd ht;clear ht hd;go_enter Tryz.func206,Tryz.ntmps206;go_wp2_with fail;refine(lH d t _).mono ?_;rw[z.1];rintro _ w2 ⟨rfl,u⟩;have g:=Hd (aA q.1 u);have J:=u.size;simp only[World.size_alloc]at J;obtain⟨hcc,R⟩:=az u;clear u;generalize ah d t=K at *;go_wp2_with fail;refine(si K _).mono ?_;generalize jK K=Q at *;rintro _ U ⟨rfl,rfl⟩;by_cases D:p<Q
  ·have Y:decide (p≥Q)=false:=by simp;omega
   have B:Hv (qB d t p=t*ag d+p):=Hd<|by show _=_;rw[G.1,if_pos ⟨HT.1,by omega,D⟩]
   go_wp2_with fail;refine(fe d _ (by omega) (by omega)).mono ?_;rintro _ U ⟨rfl,V⟩;have I:=Hd (aA g.1 V);have hM:=HM.1;clear V hcc R;go_wp2;go_ret;exact⟨aQ B.1.symm,I.1⟩
  have Y:decide (p≥Q)=true:=by simp;omega
  have B:Hv (qB d t p=-1):=Hd<|by show _=_;rw[G.1,if_neg];rintro⟨_,_,h1⟩;exact D h1
  go_wp2;go_ret;exact⟨aQ B.1.symm,g.1⟩
theorem gu(k:Int)(w:World) :
  Calls Tryz.prog 114 #[.int .i64 k] w fun e w'=>e=.returned (.int .i64 (aW k))/\w=w':=by
 by_cases h0:k=0
 ·subst h0;go_enter Tryz.func114,Tryz.ntmps114;go_wp2;go_ret;exact⟨rfl,rfl⟩
 by_cases h1:k=1
 ·subst h1;go_enter Tryz.func114,Tryz.ntmps114;go_wp2;go_ret;exact⟨rfl,rfl⟩
 by_cases h2:k=2
 ·subst h2;go_enter Tryz.func114,Tryz.ntmps114;go_wp2;go_ret;exact⟨rfl,rfl⟩
 by_cases h3:k=3
 ·subst h3;go_enter Tryz.func114,Tryz.ntmps114;go_wp2;go_ret;exact⟨rfl,rfl⟩
 have g:Hv (aW k=-1):=Hd<|by show _=_;unfold aW;rw[if_neg (by omega),if_neg h2,if_neg h3]
 have j:(k==0)=false:=by simp[h0]
 have q:(k==1)=false:=by simp[h1]
 have d2:(k==2)=false:=by simp[h2]
 have d3:(k==3)=false:=by simp[h3]
 clear h0 h1 h2 h3;go_enter Tryz.func114,Tryz.ntmps114;go_wp2;go_ret;exact⟨aQ g.1.symm,rfl⟩
theorem EK(bs:List Blk)(BA:Oh)(bn bc:Nat)(w:World)(K:RdC w w.heap.size (aa bs) (.slice BA bn bc))(hn:bn<=1048576) :
  Calls Tryz.prog 39 #[.slice BA bn bc] w fun e w'=>∃A c,e=.returned (.slice A bn c)/\Own w.heap.size w' A bn c (bs.map Blk.kind)/\Below w.heap.size w w':=by
 have u:=K.blkN;obtain⟨D,Y⟩:=hd2 u K;clear K u;go_enter Tryz.func39,Tryz.ntmps39;go_wp2
 go_loopw[3,4] (fun v i wr=>∃(k:Nat) (A:Oh) (c:Nat),k<=bn/\i=.int .i64 (k:Int)/\v=.slice A k c/\aD w wr [.cel (aI ((bs.take k).map Blk.kind)) (.slice A k c)]) (fun _ i _=>bn-(intOf i).toNat)
 ·exact⟨0,_,_,by omega,rfl,rfl,(aD.refl w).pushNew 3 1⟩
 obtain⟨k,A1,H,hk,rfl,rfl,hs⟩:=hrel;have B:=Hd hs;clear hs;by_cases R:k<bn
 ·have J:=dT (by omega:k<bn);have j:k<bs.length:=by rw[D.1];exact R
  obtain⟨W,V,EA,en,ec,rfl,G,c0,c1,c2,Z⟩:=Y.1.blk (k:=k) j;have q:=B.1.bel;have ae:=aJ q G;rw[←q.cell (p:=⟨W,V+k*3,none⟩) G]at c0;have g:=Hd (show(bs.take (k+1)).map Blk.kind=(bs.take k).map Blk.kind++[(bs[k]?.getD Blk.zero).kind] from by rw[oN j,List.map_append];rfl);clear j q Z c1 c2;generalize bs[k]?.getD Blk.zero=b at *;obtain⟨kd,it,es⟩:=b;simp only at c0 g;obtain⟨i0,i1⟩:=ib (by omega:k<bn)
  go_wp2_with (at_builtin;refine bP rfl _ _ rfl _ (B.1.alloc _) 0 A1 k H ((bs.take k).map Blk.kind) kd _ (0,0) rfl rfl rfl (aG _ _) (by omega) ?_;intro g9 cap w9 U Q;have I:=Hd U;clear U Q)
  go_roundw
  ·exact⟨k+1,_,_,by omega,by go_num,rfl,by rw[g.1];exact I.1⟩
  simp[intOf];omega
 have z:k=bn:=by omega
 have J:=dF (by omega:bn<=k);have g:Hv (bs.take k=bs):=Hd<|by show _=_;rw[z];exact List.take_of_length_le (by rw[D.1];exact Nat.le_refl _)
 rw[g.1]at B;subst z;go_wp2;go_ret;exact⟨_,_,rfl,B.1.owned 0 rfl,B.1.bel⟩
theorem wU(d:Dev)(kinds place:List Int)(KA PA:Oh)(kn kc pn pc:Nat)(w:World)(hk:bT w KA kn kinds)(hp:bT w PA pn place) :
  Calls Tryz.prog 38 #[.agg (dv d),.slice KA kn kc,.slice PA pn pc] w fun e w'=>e=.returned (.bool (tb (dA d kinds place)))/\Below w.heap.size w w':=by
 have am:=Hd (aB (Below.refl w.heap.size w) (.cells (dv d) 36));have q:=Hd (aG w (.cells (dv d) 36));obtain⟨HK,HP⟩:=hd2 hk hp;clear hk hp
 cases g:bQ d with
 | false =>
  have H:Hv (¬dA d kinds place):=Hd<|fun h=>by rw[h.dev]at g;cases g
  have I:=Hd g;clear g;go_enter Tryz.func38,Tryz.ntmps38;go_upto_region 1 with fail;generalize w.alloc (.cells (dv d) 36)=W0 at *;obtain⟨x0,Z,x2,R,U⟩:=bA (q.1);go_wp2_with fail;refine(dw d _).mono ?_;rw[I.1];rintro _ w1 ⟨rfl,D⟩;have u:=Hd (aA am.1 D);have Q:=Hd (aF D q.1);clear D x0 Z x2 R U;go_wp2;go_ret
  exact⟨bg H.1,u.1⟩
 | true =>
  have I:=Hd g;obtain⟨hN,a5,a9⟩:=jQ g;have bP:=ak g;clear g;by_cases ar:kn<=64
  ·have a2:decide ((64:Int)<(kn:Int))=false:=decide_eq_false (by omega);by_cases aw:pn=kn
   ·subst aw;have dn:((pn:Int) != (pn:Int))=false:=by simp
    have a1:=jc (pW d) (by omega);go_enter Tryz.func38,Tryz.ntmps38;go_upto_region 1 with fail;generalize w.alloc (.cells (dv d) 36)=W0 at *;obtain⟨x0,Z,x2,R,U⟩:=bA (q.1);go_wp2_with fail;refine(dw d _).mono ?_;rw[I.1];rintro _ w1 ⟨rfl,D⟩;have u:=Hd (aA am.1 D);have Q:=Hd (aF D q.1);clear D x0 Z x2 R U;have a6:=Hd ((aD.refl w1).pushRowB (pW d));obtain⟨x0,Z,x2,R,U⟩:=bA (Q.1);go_wp2_with fail;clear x0 Z x2 R U a1 hN
    go_loopw[8] (fun i wr=>∃k:Nat,k<=pn/\i=.int .i64 (k:Int)/\aD w1 wr [eO w1.heap.size (pW d) (place.take k)]/\(∀j,j<k→ai d (place[j]?.getD 0)=true/\ah d (place[j]?.getD 0)=aW (kinds[j]?.getD 0))/\(place.take k).Nodup) (fun i _=>pn-(intOf i).toNat)
    ·exact⟨0,by omega,rfl,a6.1,fun j hj=>by omega,by simp⟩
    obtain⟨k,hk,rfl,hs,ap,aS⟩:=hrel;obtain⟨HS,V,W⟩:=hd3 hs ap aS;have aj:=Hd (aA u.1 hs.bel);clear hs ap aS;by_cases al:k<pn
    ·have bb:=dT (by omega:k<pn);obtain⟨bp,op,aY,ag,aU⟩:=HP.1.2 (by omega);obtain⟨bk,ok,aZ,aK,aN⟩:=HK.1.2 (by omega);obtain⟨bh,bc⟩:=hd2 aY aZ;have aX:k<place.length:=by rw[HP.1.1];exact al
     have aE:=Hd (bF (z:=0) aX);have B:Hv (¬(ai d (place[k]?.getD 0)=true/\ah d (place[k]?.getD 0)=aW (kinds[k]?.getD 0))→¬dA d kinds place):=Hd<|fun h h'=>h (h'.tile k (by rw[HK.1.1];exact al))
     have ad:Hv (place[k]?.getD 0∈place.take k→¬dA d kinds place):=Hd<|fun h h'=>by
      have h1:=h'.once;rw[←List.take_append_drop (k+1) place,aE.1]at h1;exact(mM.1 (List.nodup_append.1 h1).1).2 h
     have HG:Hv (ai d (place[k]?.getD 0)=true/\ah d (place[k]?.getD 0)=aW (kinds[k]?.getD 0)→∀j,j<k+1→ai d (place[j]?.getD 0)=true/\ah d (place[j]?.getD 0)=aW (kinds[j]?.getD 0)):=Hd<|fun h=>fQ V.1 h
     have aR:Hv (∀v,Below w.heap.size w v→v.cell? ⟨bp,op+k,none⟩=some (.int .i64 (place[k]?.getD 0))):=Hd<|fun v hv=>(hv.cell (p:=⟨bp,op+k,none⟩) ag).trans (aU k al)
     have a3:Hv (∀v,Below w.heap.size w v→v.cell? ⟨bk,ok+k,none⟩=some (.int .i64 (kinds[k]?.getD 0))):=Hd<|fun v hv=>(hv.cell (p:=⟨bk,ok+k,none⟩) aK).trans (aN k al)
     clear aU aN aX aY aZ;obtain rfl:=bh.1;obtain rfl:=bc.1;generalize place[k]?.getD 0=t at *;generalize kinds[k]?.getD 0=kd at *;have br:=vG kd;obtain⟨bt,Y⟩:∃b,aW kd=b:=⟨_,rfl⟩;rw[Y]at br B HG;have aC:=Hd Y;clear Y;obtain⟨i0,i1⟩:=ib (by omega:k<pn);have cp:=aR.1 _ aj.1;have aO:=aJ aj.1 ag;obtain⟨x0,Z,x2,R,U⟩:=bA (aF HS.1.bel Q.1);have ao:=Hd (fun(x:Sub wr)=>lH d t x.v);obtain⟨K,az⟩:∃K,lK d t=K:=⟨_,rfl⟩;have aT:=Hd az;rw[az]at ao;clear az;go_upto_region 7 with fail;have aQ:=dB wr;have a7:=au wr;refine wpB wr ?_
     repeat(go_big_quiet_step ((first
      | (go_at_call 113;with_reducible exact aV (ao.1 _)))))
     refine wpQuiet_nil ?_;rintro wq ⟨⟨w5,hD⟩,hw⟩;replace hw:wq=w5:=hw;subst hw;clear aQ a7;have bf:=Hd (HS.1.below hD);have G:=Hd (aA aj.1 hD);clear hD x0 Z x2 R U cp aO;have cp:=aR.1 _ G.1;have ck:=a3.1 _ G.1;have aO:=aJ G.1 ag;have bN:=aJ G.1 aK
     cases ht:ai d t with
     | false =>
      have hK:K=-1:=by rw[←aT.1];unfold lK;rw[ht];rfl
      have H:=Hd (B.1 (fun h=>by rw[h.1]at ht;cases ht));subst hK;clear ht HG B ad;go_wp2;go_ret
      exact⟨bg H.1,G.1⟩
     | true =>
      have hK:K=ah d t:=by rw[←aT.1];unfold lK;rw[if_pos ht]
      have bq:=qZ d t;obtain⟨hd,h0,h1⟩:=aP.1 ht;obtain⟨hN,a5,a9⟩:=jQ hd;rw[hN]at h1;obtain⟨HT,bJ⟩:=hd2 ht hK;rw[←hK]at bq B HG;clear ht hd hN hK;obtain⟨T,rfl⟩:∃T:Nat,t=(T:Int):=⟨t.toNat,by omega⟩;have hT:T<pW d:=by omega
      have k0:decide (K<0)=false:=decide_eq_false (by omega);by_cases J:K=bt
      ·have dK:(K != bt)=false:=by simp[J]
       obtain⟨q1,q2,q3,q4⟩:=bf.1.truth 0 (k:=T) rfl hT;have be:=Hd q4;have bE:bp≠w1.heap.size:=by have:=aJ u.1 ag;omega
       have iT:(T:Int)<(pW d:Int):=by omega
       have bL:(0:Int)<=(T:Int):=by omega
       have bj:=Hd (HG.1 ⟨HT.1,J⟩);clear q4 HG B J;by_cases hm:(T:Int)∈place.take k
       ·have H:=Hd (ad.1 hm);rw[decide_eq_true hm]at q1;clear ad hm;go_wp2_with fail;refine(gu kd _).mono ?_;rw[aC.1];rintro _ w7 ⟨rfl,rfl⟩;go_wp2;go_ret;exact⟨bg H.1,G.1⟩
       have HM:=Hd hm;rw[decide_eq_false hm]at q1;clear ad hm;go_wp2_with fail;refine(gu kd _).mono ?_;rw[aC.1];rintro _ w7 ⟨rfl,rfl⟩;go_wp2;go_roundw
       ·exact⟨k+1,by omega,by go_num,by rw[aE.1];exact be.1,bj.1,by rw[aE.1,mM];exact⟨W.1,HM.1⟩⟩
       simp[intOf];omega
      have dK:(K != bt)=true:=by simp[J]
      have H:=Hd (B.1 (fun h=>J h.2));clear HG B ad J;go_wp2_with fail;refine(gu kd _).mono ?_;rw[aC.1];rintro _ w7 ⟨rfl,rfl⟩;go_wp2;go_ret;exact⟨bg H.1,G.1⟩
    have aq:k=pn:=by omega
    have bb:=dF (by omega:pn<=k)
    have H:Hv (dA d kinds place):=Hd<|⟨I.1,by rw[HK.1.1];exact ar,by rw[HP.1.1,HK.1.1],fun j hj=>V.1 j (by rw[aq,←HK.1.1];exact hj),by
     have h:=W.1
     rwa[aq,List.take_of_length_le (by rw[HP.1.1];exact Nat.le_refl _)]at h⟩
    clear V W aq;go_wp2;go_ret;exact⟨mY H.1,aj.1⟩
   have dn:((pn:Int) != (kn:Int))=true:=by simp;omega
   have H:Hv (¬dA d kinds place):=Hd<|fun h=>aw (by rw[←HP.1.1,←HK.1.1];exact h.same)
   clear aw hN;go_enter Tryz.func38,Tryz.ntmps38;go_upto_region 1 with fail;generalize w.alloc (.cells (dv d) 36)=W0 at *;obtain⟨x0,Z,x2,R,U⟩:=bA (q.1);go_wp2_with fail;refine(dw d _).mono ?_;rw[I.1];rintro _ w1 ⟨rfl,D⟩;have u:=Hd (aA am.1 D);have Q:=Hd (aF D q.1);clear D x0 Z x2 R U;go_wp2;go_ret;exact⟨bg H.1,u.1⟩
  have a2:decide ((64:Int)<(kn:Int))=true:=decide_eq_true (by omega);have H:Hv (¬dA d kinds place):=Hd<|fun h=>ar (by rw[←HK.1.1];exact h.len)
  clear ar hN;go_enter Tryz.func38,Tryz.ntmps38;go_upto_region 1 with fail;generalize w.alloc (.cells (dv d) 36)=W0 at *;obtain⟨x0,Z,x2,R,U⟩:=bA (q.1);go_wp2_with fail;refine(dw d _).mono ?_;rw[I.1];rintro _ w1 ⟨rfl,D⟩;have u:=Hd (aA am.1 D);have Q:=Hd (aF D q.1);clear D x0 Z x2 R U;go_wp2;go_ret;exact⟨bg H.1,u.1⟩
end Go.Proofs.YtofihjoanjkdmaaGreat
