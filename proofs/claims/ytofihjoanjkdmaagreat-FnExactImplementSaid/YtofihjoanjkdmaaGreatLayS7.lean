/- Connections in the reference: valid ones (printed by mkcoks.py). -/
import Derived.Test.YtofihjoanjkdmaaGreatLayG2
namespace Go.Proofs.YtofihjoanjkdmaaGreat
set_option maxHeartbeats 4000000
set_option maxRecDepth 100000
open Go.RowKit
theorem zu(n a b:Int)(w:World) :
  Calls Tryz.prog 205 #[.agg #[.int .i64 a,.int .i64 b],.int .i64 n] w fun e w'=>e=.returned (.bool (tb (iA n ⟨a,b⟩)))/\Below w.heap.size w w':=by
 have g:=Hd (aB (Below.refl w.heap.size w) (.cells #[.int .i64 a,.int .i64 b] 100));have q:Hv (iA n ⟨a,b⟩↔(0<=a/\a<n)/\0<=b/\b<=4):=Hd<|Iff.rfl
 by_cases h1:0<=a
 ·have u:decide (0<=a)=true:=decide_eq_true h1;by_cases h2:a<n
  ·have d2:decide (a<n)=true:=decide_eq_true h2;have j:Hv (inR b 0 4=tb (iA n ⟨a,b⟩)):=Hd<|Nr (by rw[aR,q.1];omega)
   clear h1 h2;go_enter Tryz.func205,Tryz.ntmps205;go_wp2_with fail;refine(bV b 0 4 _).mono ?_;rintro _ w' ⟨rfl,rfl⟩;go_wp2;go_ret;exact⟨fH j.1,g.1⟩
  have d2:decide (a<n)=false:=decide_eq_false h2;have j:Hv (¬iA n ⟨a,b⟩):=Hd<|fun h=>h2 (q.1.1 h).1.2
  clear h1 h2;go_enter Tryz.func205,Tryz.ntmps205;go_wp2;go_ret;exact⟨bg j.1,g.1⟩
 have u:decide (0<=a)=false:=decide_eq_false h1;have j:Hv (¬iA n ⟨a,b⟩):=Hd<|fun h=>h1 (q.1.1 h).1.1
 clear h1;go_enter Tryz.func205,Tryz.ntmps205;go_wp2;go_ret;exact⟨bg j.1,g.1⟩
theorem nZ(n:Int)(cs:List Cn)(CA:Oh)(cn cc:Nat)(w:World)(hC:RdC w w.heap.size (bL cs) (.slice CA cn cc))(am:∀c∈cs,c.sinks.length<=1048576) :
  Calls Tryz.prog 115 #[.int .i64 n,.slice CA cn cc] w fun e w'=>e=.returned (.bool (tb (dW n cs)))/\Below w.heap.size w w':=by
 have U:=hC.cnN;obtain⟨ae,HC,aI⟩:=hd3 U hC am;clear hC am
 cases hr:inR n 0 64 with
 | false =>
  have K:Hv (¬dW n cs):=Hd<|fun h=>by rw[aR.2 h.blocks]at hr;cases hr
  have H1:=Hd hr;clear hr;go_enter Tryz.func115,Tryz.ntmps115;go_wp2_with fail;refine(bV n 0 64 _).mono ?_;rw[H1.1];rintro _ w' ⟨rfl,rfl⟩;go_wp2;go_ret
  exact⟨bg K.1,Below.refl _ _⟩
 | true =>
  have hn:=aR.1 hr;have H1:=Hd hr;clear hr;by_cases Y:cn<=100
  ·have av:decide ((100:Int)<(cn:Int))=false:=decide_eq_false (by omega);clear U;go_enter Tryz.func115,Tryz.ntmps115;go_wp2_with fail;refine(bV n 0 64 _).mono ?_;rw[H1.1];rintro _ w' ⟨rfl,rfl⟩;go_wp2
   go_loopw[5] (fun i wr=>∃k:Nat,k<=cn/\i=.int .i64 (k:Int)/\Below w.heap.size w wr/\∀j,j<k→nD n (cs[j]?.getD Cn.zero)) (fun i _=>cn-(intOf i).toNat)
   ·exact⟨0,by omega,rfl,Below.refl _ _,fun j hj=>by omega⟩
   obtain⟨k,hk,rfl,hb,z⟩:=hrel;obtain⟨u,Q⟩:=hd2 hb z;clear hb z;by_cases aH:k<cn
   ·have aF:=dT (by omega:k<cn);have I:k<cs.length:=by rw[ae.1];exact aH
    obtain⟨bc,oc,SA,m,mc,aw,B,c0,c1,c2,c3,rs⟩:=HC.1.cn (k:=k) I;have aD:=Hd aw;have hg:nD n (cs[k]?.getD Cn.zero)→∀j,j<k+1→nD n (cs[j]?.getD Cn.zero):=fun h=>fQ Q.1 h;have ax:dW n cs→nD n (cs[k]?.getD Cn.zero):=fun h=>by rw[List.getElem?_eq_getElem I];exact h.fit _ (List.getElem_mem I)
    have G:=aI.1 _ (List.getElem_mem I);rw[show cs[k]=cs[k]?.getD Cn.zero by rw[List.getElem?_eq_getElem I];rfl]at G;obtain⟨Z,W⟩:=hd2 hg ax;clear I hg ax aw;obtain rfl:=aD.1;generalize cs[k]?.getD Cn.zero=c at *;obtain⟨N,⟨a,b⟩,ss⟩:=c;simp only at c0 c1 c2 c3 G;have ar:=Hd (show RdC w w.heap.size (aZ ss) (.slice SA m mc) from rs);have H:Hv (ss.length=m):=Hd<|ar.1.pinN
    have hm:m<=1048576:=by rw[←H.1];exact G
    obtain⟨i0,i1⟩:=ib (by omega:k<cn);obtain⟨ak,ay,ao⟩:=hd3 c1 c2 c3;clear rs G c0 c1 c2 c3;have J:=aJ u.1 B;have c1:=(u.1.cell (p:=⟨bc,oc+k*4+1,none⟩) B).trans ak.1;have c2:=(u.1.cell (p:=⟨bc,oc+k*4+2,none⟩) B).trans ay.1;have c3:=(u.1.cell (p:=⟨bc,oc+k*4+3,none⟩) B).trans ao.1
    cases D:inR (m:Int) 1 120 with
    | false =>
     have K:Hv (¬dW n cs):=Hd<|fun h=>by
      have h2:=(W.1 h).len;change 1<=ss.length/\ss.length<=120 at h2;rw[H.1]at h2;rw[aR.2 (by omega)]at D
      cases D
     have H2:=Hd D;clear D Z W;go_wp2_with fail;refine(bV (m:Int) 1 120 _).mono ?_;rw[H2.1];rintro _ w' ⟨rfl,rfl⟩;clear c1 c2 c3 J;go_wp2;go_ret
     exact⟨bg K.1,u.1⟩
    | true =>
     have aV:=aR.1 D;have H2:=Hd D;clear D;go_wp2_with fail;refine(bV (m:Int) 1 120 _).mono ?_;rw[H2.1];rintro _ w' ⟨rfl,rfl⟩;go_wp2_with fail;refine(zu n a b _).mono ?_;by_cases hf:iA n ⟨a,b⟩
     ·rw[bZ hf];have aM:Hv ((∀p∈ss,iA n p)→∀j,j<k+1→nD n (cs[j]?.getD Cn.zero)):=Hd<|fun h=>Z.1 ⟨⟨by show 1<=ss.length;rw[H.1];omega,by show ss.length<=120;rw[H.1];omega⟩,hf,h⟩
      rintro _ w4 ⟨rfl,R⟩;have ag:=Hd (aA u.1 R);clear R c1 c2 c3 J Z hf;go_wp2
      go_loopw[6] (fun i wr=>∃j:Nat,j<=m/\i=.int .i64 (j:Int)/\Below w.heap.size w wr/\∀q,q<j→iA n (ss[q]?.getD aL.zero)) (fun i _=>m-(intOf i).toNat)
      ·exact⟨0,by omega,rfl,ag.1,fun q hq=>by omega⟩
      obtain⟨j,hj,rfl,hb,z⟩:=hrel;obtain⟨g,ah⟩:=hd2 hb z;clear hb z;have J:=aJ g.1 B;have c1:=(g.1.cell (p:=⟨bc,oc+k*4+1,none⟩) B).trans ak.1;have c2:=(g.1.cell (p:=⟨bc,oc+k*4+2,none⟩) B).trans ay.1;have c3:=(g.1.cell (p:=⟨bc,oc+k*4+3,none⟩) B).trans ao.1;have i2:(0:Int)<=(j:Int):=by omega
      by_cases aj:j<m
      ·have aN:=dT (by omega:j<m);have V:j<ss.length:=by rw[H.1];exact aj
       obtain⟨bp,op,au,ad,d0,d1⟩:=ar.1.pin (k:=j) V;have aG:=Hd au;have aq:=aJ g.1 ad;rw[←g.1.cell (p:=⟨bp,op+j*2,none⟩) ad]at d0;rw[←g.1.cell (p:=⟨bp,op+j*2+1,none⟩) ad]at d1;have Z:Hv (iA n (ss[j]?.getD aL.zero)→∀q,q<j+1→iA n (ss[q]?.getD aL.zero)):=Hd<|fun h=>fQ ah.1 h
       have HN:Hv (¬iA n (ss[j]?.getD aL.zero)→¬dW n cs):=Hd<|fun h h'=>h (by
        rw[List.getElem?_eq_getElem V]
        exact(W.1 h').sinks _ (List.getElem_mem V))
       clear V au;obtain rfl:=aG.1;generalize ss[j]?.getD aL.zero=s at *;obtain⟨x,y⟩:=s;simp only at d0 d1;have i3:(j:Int)<(m:Int):=by omega
       go_wp2_with fail;refine(zu n x y _).mono ?_;by_cases hf:iA n ⟨x,y⟩
       ·rw[bZ hf];have af:=Hd (Z.1 hf);rintro _ w4 ⟨rfl,R⟩;have ai:=Hd (aA g.1 R);clear R d0 d1 Z HN hf aq c1 c2 c3 J;go_wp2;go_roundw
        ·exact⟨j+1,by omega,by go_num,ai.1,af.1⟩
        simp[intOf];omega
       rw[dU hf];have K:=Hd (HN.1 hf);rintro _ w4 ⟨rfl,R⟩;have ai:=Hd (aA g.1 R);clear R d0 d1 Z HN hf aq c1 c2 c3 J;go_wp2;go_ret;exact⟨bg K.1,ai.1⟩
      have ap:j=m:=by omega
      have aN:=dF (by omega:m<=j)
      have af:=Hd (aM.1 (fun p hp=>by
       obtain⟨q,hq,rfl⟩:=List.getElem_of_mem hp;have h:=ah.1 q (by rw[ap,←H.1];exact hq)
       rwa[List.getElem?_eq_getElem hq]at h))
      clear ah ap;go_wp2;go_roundw
      ·exact⟨k+1,by omega,by go_num,g.1,af.1⟩
      simp[intOf];omega
     rw[dU hf];have K:Hv (¬dW n cs):=Hd<|fun h=>hf (W.1 h).src
     rintro _ w4 ⟨rfl,R⟩;have ag:=Hd (aA u.1 R);clear R c1 c2 c3 J Z hf;go_wp2;go_ret;exact⟨bg K.1,ag.1⟩
   have al:k=cn:=by omega
   have aF:=dF (by omega:cn<=k)
   have K:Hv (dW n cs):=Hd<|⟨hn,by rw[ae.1];exact Y,fun c hc=>by
    obtain⟨j,hj,rfl⟩:=List.getElem_of_mem hc;have h:=Q.1 j (by rw[al,←ae.1];exact hj)
    rwa[List.getElem?_eq_getElem hj]at h⟩
   clear Q al;go_wp2;go_ret;exact⟨mY K.1,u.1⟩
  have K:Hv (¬dW n cs):=Hd<|fun h=>Y (by rw[←U];exact h.len)
  have av:decide ((100:Int)<(cn:Int))=true:=decide_eq_true (by omega);clear U;go_enter Tryz.func115,Tryz.ntmps115;go_wp2_with fail;refine(bV n 0 64 _).mono ?_;rw[H1.1];rintro _ w' ⟨rfl,rfl⟩;go_wp2;go_ret;exact⟨bg K.1,Below.refl _ _⟩
end Go.Proofs.YtofihjoanjkdmaaGreat
