/- Positions by averaging, in the program (printed by mki7.py). -/
import Derived.Test.YtofihjoanjkdmaaGreatHeldW
import Derived.Test.YtofihjoanjkdmaaGreatLayDM
import Derived.Test.YtofihjoanjkdmaaGreatPinS
namespace Go.Proofs.YtofihjoanjkdmaaGreat
set_option maxHeartbeats 8000000
set_option maxRecDepth 100000
open Go.RowKit
theorem DJ{x n:Int}{k:Nat}(_:0<=n)(hn:0<n)(h0:0<=x)(h1:x<=500*n)(_:n<=121*(k:Int)):0<=x/n/\x/n<=500 :=
 ⟨Int.ediv_nonneg h0 (by omega),by have:x/n<501:=Int.ediv_lt_of_lt_mul hn (by omega);omega⟩
theorem DK(d:Dev)(fx:List Int)(cs:List Cn)(FA CA:Oh)(D fc cn cc:Nat)(w:World)(hF:bT w FA D fx)(hC:RdC w w.heap.size (bL cs) (.slice CA cn cc))(hd:bQ d=true)(bH:F7 d fx)(aI:dW (D:Int) cs) :
  Calls Tryz.prog 183 #[.agg (dv d),.slice FA D fc,.slice CA cn cc,.int .i64 8] w fun e w'=>∃A c,e=.returned (.slice A D c)/\aD w w' [.cel (aZ (nT d fx cs 8)) (.slice A D c)]:=by
 have dq:=Hd (aB (Below.refl w.heap.size w) (.cells (dv d) 36));have b8:=Hd (aG w (.cells (dv d) 36));obtain⟨HF,HC⟩:=hd2 hF hC;have aV:Hv (fx.length=D):=Hd<|hF.1
 have aY:Hv (cs.length=cn):=Hd<|hC.cnN
 have c8:cn<=100:=by rw[←aY.1];exact aI.len
 have dS:D<=64:=by have:=aI.blocks;omega
 obtain⟨HD,dd,am⟩:=hd3 hd bH aI;obtain⟨w1,w2,w3,w4,_⟩:=ak hd;have df:Hv (∀r,xH D (nT d fx cs r)):=Hd<|fun r=>by have h:=wF hd bH aI r;rw[hF.1]at h;exact h
 obtain⟨co,cu,bX,cy,cz⟩:=info_parts tZ;have R:=Hd (And.intro cu (And.intro bX (And.intro cy cz)));clear hF hC hd bH aI cu bX cy cz;go_enter Tryz.func183,Tryz.ntmps183;go_upto_region 1 with fail;generalize w.alloc (.cells (dv d) 36)=W9 at *;obtain⟨x0,x1,x2,x3,lx⟩:=bA (b8.1);go_wp2_with fail;refine(eG d _).mono ?_;rw[HD.1];rintro _ wd ⟨rfl,bG⟩;have cg:=Hd (aA dq.1 bG);have da:=Hd (aF bG b8.1);clear bG x0 x1 x2 x3 lx;go_wp2_with fail;refine(qD (D:Int) cs CA cn cc _ (HC.1.below cg.1) (fun c hc=>by have:=(am.1.fit c hc).len;omega)).mono ?_;rw[bZ am.1];rintro _ w1 ⟨rfl,b1⟩;have be:=Hd (aA cg.1 b1);have bR:=Hd (aF b1 da.1);clear b1;go_wp2_with fail;refine(aM 8 0 20 _).mono ?_;rw[aR.2 ⟨by omega,by omega⟩];rintro _ _ ⟨rfl,rfl⟩;go_wp2_with fail;obtain⟨W1,rfl⟩:∃x,x=w1:=⟨w1,rfl⟩
 go_loopw[9,39] (fun v i wr=>∃(k:Nat) (A:Oh) (c:Nat),k<=D/\v=.slice A k c/\i=.int .i64 (k:Int)/\aD W1 wr [.cel (aZ ((fx.take k).map (wD d))) (.slice A k c)]) (fun _ i _=>D-(intOf i).toNat)
 ·exact⟨0,none,0,by omega,rfl,rfl,(aD.refl W1).pushNil _ _⟩
 obtain⟨k,A,c,hk,rfl,rfl,hs⟩:=hrel;have HS:=Hd hs;have J:=Hd (aA be.1 hs.bel);have aT:=Hd (aF hs.bel bR.1);clear hs;by_cases cf:k<D
 ·have bp:=dT (by omega:k<D);have G:k<fx.length:=by rw[aV.1];exact cf
  obtain⟨b,o,ax,hb,hc⟩:=HF.1.2 (by omega);have ck:=(J.1.cell (p:=⟨b,o+k,none⟩) hb).trans (hc k cf);have lb:=aJ J.1 hb;have aQ:=dd.1 _ (List.getElem_mem G);rw[show fx[k]=fx[k]?.getD 0 by rw[List.getElem?_eq_getElem G];rfl]at aQ;have aw:=Hd (bF (z:=0) G);have bx:=Hd ax;clear G hc ax;obtain rfl:=bx.1;generalize fx[k]?.getD 0=t at *;obtain⟨i0,i1⟩:=ib (by omega:k<D);by_cases ht:t=-1
  ·subst ht;have aX:Hv (wD d (-1)=⟨50*(d.W-1),50*(d.H-1)⟩):=Hd<|if_pos rfl
   clear aQ;go_upto_region 10 with fail;clear ck lb;obtain⟨x0,x1,x2,x3,lx⟩:=bA (aT.1)
   go_wp2_with (at_builtin;refine af rfl _ _ 156 100 rfl co _ 2 16 Tryz.underlying156 R.1.1 R.1.2.1 R.1.2.2.1 R.1.2.2.2 rfl (by decide) (by decide) _ ((HS.1.alloc _).consPin (50*(d.W-1)) (50*(d.H-1))) 1 0 (by decide) k c _ A (((fx.take k).map (wD d)).flatMap aL.cells) _ #[.int .i64 (50*(d.W-1)),.int .i64 (50*(d.H-1))] _ rfl rfl rfl rfl (aG _ _) rfl (by omega) ?_;intro g9 cap w9 S9 bs;have bk:=Hd S9.tail;(try replace hD:=S9.bel);clear S9 bs)
   go_roundw
   ·exact⟨k+1,_,_,by omega,rfl,by go_num,by rw[aw.1,List.map_append,List.map_singleton,aX.1,uF];exact bk.1⟩
   simp[intOf];omega
  have aS:=aQ.resolve_left ht;have aX:Hv (wD d t=⟨100*(t%d.W),100*(t/d.W)⟩):=Hd<|if_neg ht
  obtain⟨a0,a1,a2,a3,a4⟩:=jL aS;obtain⟨_,t0,t1⟩:=aP.1 aS;have eo:=(eu HD.1).2
  have dm:Hv (∀x:World,Calls Tryz.prog 216 #[.agg (dv d),.int .i64 t] x fun e w'=>e=.returned (.bool true)/\Below x.heap.size x w'):=Hd<|fun x=>by
   have h:=pJ d t x;rw[aS]at h;exact h
  have eg:(t != -1)=true:=by simp[ht]
  have ew:(t==-1)=false:=by simp[ht]
  clear aQ a4 aS ht;go_upto_region 7 with fail;clear ck lb;obtain⟨x0,x1,x2,x3,lx⟩:=bA (aT.1);go_wp2_with fail;refine(dm.1 _).mono ?_;rintro _ w5 ⟨rfl,b5⟩;have bv:=Hd (HS.1.below b5);have de:=Hd (aF b5 aT.1);have ah:Hv (∀w',Below W1.heap.size W1 w'→(w'.cell? ⟨w.heap.size,0,none⟩=some (.int .i64 d.W))):=Hd<|fun v hv=>aC (k:=0) (aF hv bR.1) rfl
  clear b5 x0 x1 x2 x3 lx aT;go_upto_region 11 with fail;have q0:¬d.W=0:=by omega
  have q1:t.tmod d.W=t%d.W:=Int.tmod_eq_emod_of_nonneg t0;have q2:IntKind.i64.wrap (t.tdiv d.W)=t/d.W:=IntWalk.i64_quo _ _ ⟨t0,by omega,by omega⟩;obtain⟨tx,bd⟩:∃z,t%d.W=z:=⟨_,rfl⟩;obtain⟨ty,hty⟩:∃z,t/d.W=z:=⟨_,rfl⟩;obtain⟨el,ek⟩:=hd2 bd hty;rw[bd]at q1 a0 a1;rw[hty]at q2 a2 a3;rw[bd,hty]at aX;have es:IntKind.i64.wrap (100*tx)=100*tx:=IntWalk.i64_in _ (by omega);have dR:IntKind.i64.wrap (100*ty)=100*ty:=IntWalk.i64_in _ (by omega);clear bd hty;have x0:=ah.1 _ bv.1.bel;have lx:=aH de.1;have hS:=Hd bv.1.drew;have hD:=hS.1.bel
  go_region_held3 (fun w'=>w'.cell? ⟨w.heap.size,0,none⟩=some (.int .i64 d.W))
   (first|with_reducible exact ah.1 _ hD|with_reducible exact ah.1 _ (aB bv.1.bel _).drew)
   ((first
    | (refine iL rfl _ _ 156 100 (by rfl) co _ 2 16 Tryz.underlying156 R.1.1 R.1.2.1 R.1.2.2.1 R.1.2.2.2 rfl (by decide) (by decide) _ ((hS.1.alloc _).consPin (100*tx) (100*ty)) 1 0 (by decide) k c _ A (((fx.take k).map (wD d)).flatMap aL.cells) _ #[.int .i64 (100*tx),.int .i64 (100*ty)] _ rfl rfl (by rfl) (by rfl) (aG _ _) rfl (by omega) ?_;intro g9 cap w9 S9 bs;have bk:=Hd S9.tail;(try replace hD:=S9.bel);clear S9 bs)))
  all_goals
   go_wp2;go_roundw
   ·exact⟨k+1,_,_,by omega,rfl,by go_num,by rw[aw.1,List.map_append,List.map_singleton,aX.1,uF];exact bk.1⟩
   simp[intOf];omega
 have ar:k=D:=by omega
 have bp:=dF (by omega:D<=k);have aw:Hv (fx.take k=fx):=Hd<|by show _=_;rw[ar];exact List.take_of_length_le (by rw[aV.1];exact Nat.le_refl _)
 have hs:=HS.1;rw[aw.1]at hs;subst ar;have cQ:Hv (aD W1 wr [.cel (aZ (nT d fx cs 0)) (.slice A k c)]):=Hd hs;clear hs HS aw;obtain⟨D,rfl⟩:∃x,x=k:=⟨k,rfl⟩;go_wp2
 go_loopw[12] (fun v wr=>∃r:Nat,r<=8/\v=.int .i64 (r:Int)/\aD W1 wr [.cel (aZ (nT d fx cs r)) (.slice A D c)]) (fun v _=>8-(intOf v).toNat)
 ·exact⟨0,by omega,rfl,cQ.1⟩
 obtain⟨r,hr,rfl,hs⟩:=hrel;have HS:=Hd hs;have bW:=Hd (df.1 r);have c4:Hv (nT d fx cs (r+1)=kH fx cs (nT d fx cs r) fx.length):=Hd<|rfl
 clear hs;by_cases ej:r<8
 ·have dr:decide ((r:Int)<8)=true:=by simp;omega
  generalize nT d fx cs r=O0 at *;obtain⟨wo,rfl⟩:∃x,x=wr:=⟨wr,rfl⟩;go_wp2
  go_loopw[87] (fun v wr=>∃j:Nat,j<=D/\v=.int .i64 (j:Int)/\aD W1 wr [.cel (aZ (kH fx cs O0 j)) (.slice A D c)]) (fun v _=>D-(intOf v).toNat)
  ·exact⟨0,by omega,rfl,HS.1⟩
  obtain⟨j,dX,rfl,hs⟩:=hrel;have av:=Hd hs;have ay:=Hd (aA be.1 hs.bel);clear hs;by_cases au:j<D
  ·have du:=dT (by omega:j<D);have G:j<fx.length:=by rw[aV.1];exact au
   obtain⟨bb,ob,ax,hb,hc⟩:=HF.1.2 (by omega);have ck:=(ay.1.cell (p:=⟨bb,ob+j,none⟩) hb).trans (hc j au);have lb:=aJ ay.1 hb;have bx:=Hd ax;have cr:Hv (kH fx cs O0 (j+1)=if fx[j]?.getD 0=-1 then Ih (kH fx cs O0 j) j (qh (kH fx cs O0 j) (j:Int) cs cs.length)else kH fx cs O0 j):=Hd<|rfl
   have U:=Hd (yg (fx:=fx) am.1 bW.1 j);clear G hc ax;obtain rfl:=bx.1;obtain⟨i0,i1⟩:=ib (by omega:j<D);obtain⟨t,ht⟩:∃t,fx[j]?.getD 0=t:=⟨_,rfl⟩;rw[ht]at ck;by_cases aO:t=-1
   ·subst aO;have dw:=Hd ht;have ci:=Hd (av.1.rd 0 rfl);obtain⟨O,hO⟩:∃O,kH fx cs O0 j=O:=⟨_,rfl⟩;rw[hO]at av ci U;have dy:=Hd hO;clear ht hO cr;obtain⟨w3,rfl⟩:∃x,x=wr:=⟨wr,rfl⟩;go_wp2_with fail;clear ck lb
    go_loopw[15,16,17,96] (fun x y z i wr=>∃(k:Nat) (I:A3),k<=cn/\x=.int .i64 I.x/\y=.int .i64 I.y/\z=.int .i64 I.n/\i=.int .i64 (k:Int)/\qh O (j:Int) cs k=I/\Below w3.heap.size w3 wr) (fun _ _ _ i _=>cn-(intOf i).toNat)
    ·exact⟨0,A3.zero,by omega,rfl,rfl,rfl,rfl,rfl,Below.refl _ _⟩
    obtain⟨k,I,hk,rfl,rfl,rfl,rfl,b9,bS⟩:=hrel;obtain⟨a6,bB⟩:=hd2 b9 bS;clear b9 bS;by_cases cp:k<cn
    ·have bp:=dT (by omega:k<cn);have G:k<cs.length:=by rw[aY.1];exact cp
     have ch:Hv (qh O (j:Int) cs (k+1)=if tch (cs[k]?.getD Cn.zero) (j:Int)then pq O (j:Int) (bN (cs[k]?.getD Cn.zero)) I (bN (cs[k]?.getD Cn.zero)).length else I):=Hd<|by show _=_;rw[qh,a6.1]
     obtain⟨bc,oc,SA,m,mc,cm,aK,c0,c1,c2,c3,rs⟩:=HC.1.cn (k:=k) G;have aj:=wE am.1 G;have cS:=Hd cm
     have cB:Hv (∀p∈bN (cs[k]?.getD Cn.zero),0<=p.block/\p.block<(D:Int)):=Hd<|fun p hp=>by
      unfold bN at hp;rw[List.mem_cons]at hp
      rcases hp with rfl|hp
      ·exact aj.src.1
      exact(aj.sinks p hp).1
     have bn:=aj.len;have Z:=(uH U.1 (i:=(j:Int)) am.1 (show k<=cs.length by omega));rw[a6.1]at Z;have dk:=Hd Z.1;have ai:=Z.2;clear G cm aj Z;obtain rfl:=cS.1;have J:=Hd (aA ay.1 bB.1);have c0:=(J.1.cell (p:=⟨bc,oc+k*4,none⟩) aK).trans c0;have c1:=(J.1.cell (p:=⟨bc,oc+k*4+1,none⟩) aK).trans c1;have c2:=(J.1.cell (p:=⟨bc,oc+k*4+2,none⟩) aK).trans c2;have c3:=(J.1.cell (p:=⟨bc,oc+k*4+3,none⟩) aK).trans c3;have dx:=aJ J.1 aK;generalize cs[k]?.getD Cn.zero=cx at *;obtain⟨N,⟨a,b⟩,ss⟩:=cx;simp only at c0 c1 c2 c3 bn;have br:=Hd (show RdC w w.heap.size (aZ ss) (.slice SA m mc) from rs);have ca:Hv (ss.length=m):=Hd<|br.1.pinN
     rw[ca.1]at bn;obtain⟨bV,ei⟩:=bn;obtain⟨i0,i1⟩:=ib (by omega:k<cn);have c6:(0:Int)<=(j:Int):=by omega
     clear rs;have bC:=Hd (aB bB.1 (.cells #[.int .i64 N,.int .i64 a,.int .i64 b,.slice SA m mc] 158));have bE:=Hd (aG wr (.cells #[.int .i64 N,.int .i64 a,.int .i64 b,.slice SA m mc] 158));go_upto_region 24 with fail;obtain⟨gC,bw⟩:∃g,wr.heap.size=g:=⟨_,rfl⟩;rw[bw]at bE
     (try rw[bw])
     clear bw c0 c1 c2 c3 dx;generalize wr.alloc (.cells #[.int .i64 N,.int .i64 a,.int .i64 b,.slice SA m mc] 158)=W6 at *;obtain⟨y0,y1,y2,y3,ly⟩:=bA (bE.1);go_wp2_with fail;refine(GG N a b ss SA m mc (j:Int) _ (br.1.below (aA ay.1 bC.1)) bV (by omega)).mono ?_;by_cases ap:tch ⟨N,⟨a,b⟩,ss⟩ (j:Int)
     ·rw[bZ ap];rintro _ w4 ⟨rfl,b4⟩;have bf:=Hd (aA bC.1 b4);have dc:=Hd (aF b4 bE.1);have cT:=Hd ap;clear b4 ap y0 y1 y2 y3 ly;go_upto_region 25 with fail;obtain⟨y0,y1,y2,y3,ly⟩:=bA (dc.1);go_wp2_with fail;refine(vJ N a b ss SA m mc _ (br.1.below (aA ay.1 bf.1)) bV (by omega)).mono ?_;rintro _ w5 ⟨gP,cP,rfl,S5⟩;have cR:=Hd S5;have cq:=Hd (aA bf.1 S5.bel);clear S5 y0 y1 y2 y3 ly;have bY:Hv ((bN ⟨N,⟨a,b⟩,ss⟩).length=1+m):=Hd<|by show _=_;unfold bN;rw[List.length_cons,ca.1];omega
      have b6:Hv (∀q,A3I (pq O (j:Int) (bN ⟨N,⟨a,b⟩,ss⟩) I q)/\(pq O (j:Int) (bN ⟨N,⟨a,b⟩,ss⟩) I q).n<=I.n+(q:Int)):=Hd<|fun q=>yf U.1 _ dk.1 q
      generalize bN ⟨N,⟨a,b⟩,ss⟩=ps at *;go_wp2
      go_loopw[15,16,17,107] (fun x y z i wr=>∃(q:Nat) (ab:A3),q<=1+m/\x=.int .i64 ab.x/\y=.int .i64 ab.y/\z=.int .i64 ab.n/\i=.int .i64 (q:Int)/\pq O (j:Int) ps I q=ab/\Below w5.heap.size w5 wr) (fun _ _ _ i _=>1+m-(intOf i).toNat)
      ·exact⟨0,I,by omega,rfl,rfl,rfl,rfl,rfl,Below.refl _ _⟩
      obtain⟨q,ab,hq,rfl,rfl,rfl,rfl,bu,cj⟩:=hrel;obtain⟨cd,Y⟩:=hd2 bu cj;have cv:=b6.1 q;rw[bu]at cv;clear bu cj;obtain⟨al,ce⟩:=cv;have dK:=Hd al;obtain⟨ad,ae,ag⟩:=ab;unfold A3I at al;simp only at al ce;obtain⟨n0,⟨a9,b0⟩,aW,cb⟩:=al;by_cases b3:q<1+m
      ·have cX:decide ((q:Int)<((1+m:Nat):Int))=true:=by simp;omega
       have a7:q<ps.length:=by rw[bY.1];exact b3
       obtain⟨bq,oq,hA,bJ,c0,c1⟩:=(cR.1.rd 0 rfl).pin (k:=q) a7;injection hA with hA
       injection hA with hA hAF
       subst hA hAF;rw[Nat.zero_add]at c0 c1;have c0:=(Y.1.cell (p:=⟨gP,q*2,none⟩) bJ).trans c0;have c1:=(Y.1.cell (p:=⟨gP,q*2+1,none⟩) bJ).trans c1;have lq:=aJ Y.1 bJ;have a8:=cB.1 _ (List.getElem_mem a7);rw[show ps[q]=ps[q]?.getD aL.zero by rw[List.getElem?_eq_getElem a7];rfl]at a8;have cl:Hv (pq O (j:Int) ps I (q+1)=F6 O (j:Int) ⟨ad,ae,ag⟩ (ps[q]?.getD aL.zero)):=Hd<|by show _=_;rw[pq,cd.1]
       clear a7;generalize ps[q]?.getD aL.zero=p at *;obtain⟨pb,pp⟩:=p;simp only at c0 c1 a8;obtain⟨B,rfl⟩:∃B:Nat,pb=(B:Int):=⟨_,(Int.toNat_of_nonneg a8.1).symm⟩;have bP:B<D:=by omega
       obtain⟨gO,oO,aq,bl,d0,d1⟩:=ci.1.pin (k:=B) (by rw[U.1.len];exact bP);have bj:=Hd aq;have bt:=U.1.at_ (B:Int);have bh:Hv (tC O (B:Int)=O[B]?.getD aL.zero):=Hd<|by show _=_;unfold tC;rw[Int.toNat_natCast]
       rw[bh.1]at bt;have bD:=Hd (aA cq.1 Y.1);have d0:=(bD.1.cell (p:=⟨gO,oO+B*2,none⟩) bl).trans d0;have d1:=(bD.1.cell (p:=⟨gO,oO+B*2+1,none⟩) bl).trans d1;have lo:=aJ bD.1 bl;generalize O[B]?.getD aL.zero=po at *;obtain⟨px,py⟩:=po;simp only at d0 d1 bt;obtain⟨⟨d8,ev⟩,dZ,dP⟩:=bt;have i0:(0:Int)<=(q:Int):=by omega
       have i1:(q:Int)<((1+m:Nat):Int):=by omega
       obtain⟨B0,B1⟩:=ib (by omega:B<D);clear a8 aq bP;obtain rfl:=bj.1;by_cases ao:(B:Int)=(j:Int)
       ·have db:((B:Int) != (j:Int))=false:=by simp[ao]
        have V:Hv (pq O (j:Int) ps I (q+1)=⟨ad,ae,ag⟩):=Hd<|by show _=_;rw[cl.1];exact if_neg (by simp[ao])
        clear ao;go_wp2;go_roundw
        ·exact⟨q+1,⟨ad,ae,ag⟩,by omega,rfl,rfl,rfl,by go_num,V.1,aB Y.1 _⟩
        simp[intOf];omega
       have db:((B:Int) != (j:Int))=true:=by simp[ao]
       have V:Hv (pq O (j:Int) ps I (q+1)=⟨ad+px,ae+py,ag+1⟩):=Hd<|by show _=_;rw[cl.1];unfold F6;rw[if_pos ao,bh.1]
       clear ao;go_wp2;go_roundw
       ·exact⟨q+1,⟨ad+px,ae+py,ag+1⟩,by omega,rfl,rfl,rfl,by go_num,V.1,aB Y.1 _⟩
       simp[intOf];omega
      have cA:q=1+m:=by omega
      have cX:decide ((q:Int)<((1+m:Nat):Int))=false:=by simp;omega
      have V:Hv (qh O (j:Int) cs (k+1)=⟨ad,ae,ag⟩):=Hd<|by show _=_;rw[ch.1,if_pos cT.1,bY.1,←cA];exact cd.1
      clear cA;go_wp2;go_roundw
      ·exact⟨k+1,⟨ad,ae,ag⟩,by omega,rfl,rfl,rfl,by go_num,V.1,aA cq.1 Y.1⟩
      simp[intOf];omega
     rw[dU ap];rintro _ w4 ⟨rfl,b4⟩;have bf:=Hd (aA bC.1 b4);have V:Hv (qh O (j:Int) cs (k+1)=I):=Hd<|by show _=_;rw[ch.1,if_neg ap]
     clear b4 ap y0 y1 y2 y3 ly;go_wp2;go_roundw
     ·exact⟨k+1,I,by omega,rfl,rfl,rfl,by go_num,V.1,bf.1⟩
     simp[intOf];omega
    have ar:k=cn:=by omega
    have bp:=dF (by omega:cn<=k);have Z:=(uH U.1 (i:=(j:Int)) am.1 (show k<=cs.length by rw[aY.1];omega));rw[a6.1]at Z;obtain⟨bz,ai⟩:=Z
    have a5:Hv (kH fx cs O0 (j+1)=Ih O j I):=Hd<|by
     show _=_;rw[kH,if_pos dw.1,dy.1];rw[←a6.1,ar,aY.1]
    have bU:=Hd (av.1.below bB.1);obtain⟨Q,K,u⟩:=I;unfold A3I at bz;simp only at bz ai;obtain⟨n0,⟨a9,b0⟩,aW,cb⟩:=bz;clear ar;by_cases hn:0<u
    ·have dn:decide (u>0)=true:=decide_eq_true hn;have dp:decide (0<u)=true:=decide_eq_true hn;have aE:Hv (kH fx cs O0 (j+1)=O.set j ⟨Q/u,K/u⟩):=Hd<|by show _=_;rw[a5.1];exact if_pos hn
     obtain⟨gO,aq,lO,e0,e1,f0,f1,bg⟩:=bU.1.setPin 0 rfl (i:=j) (by rw[U.1.len];exact au);have ds:=Hd (bg ⟨Q/u,K/u⟩);have bj:=Hd aq;have q0:¬u=0:=by omega
     have q1:IntKind.i64.wrap (Q.tdiv u)=Q/u:=IntWalk.i64_quo _ _ ⟨a9,by omega,by omega⟩;have q2:IntKind.i64.wrap (K.tdiv u)=K/u:=IntWalk.i64_quo _ _ ⟨aW,by omega,by omega⟩;have q3:Q.tdiv u=Q/u:=Int.tdiv_eq_ediv_of_nonneg a9;have q4:K.tdiv u=K/u:=Int.tdiv_eq_ediv_of_nonneg aW;have ⟨d0,d1⟩:=DJ n0 hn a9 b0 ai;have ⟨d2,d3⟩:=DJ n0 hn aW cb ai;have q5:wrap64 (Q/u)=Q/u:=IntWalk.wrap64_in _ ⟨by omega,by omega⟩;have q6:wrap64 (K/u)=K/u:=IntWalk.wrap64_in _ ⟨by omega,by omega⟩;obtain⟨c6,ed⟩:=ib (by omega:j<D);clear bg aq;obtain rfl:=bj.1;go_upto_region 35 with fail
     go_region_with (fail)
     all_goals
      go_wp2;go_roundw
      ·exact⟨j+1,by omega,by go_num,by rw[aE.1];exact ds.1.drew⟩
      simp[intOf];omega
    have dn:decide (u>0)=false:=decide_eq_false hn;have dp:decide (0<u)=false:=decide_eq_false hn;have aE:Hv (kH fx cs O0 (j+1)=O):=Hd<|by show _=_;rw[a5.1];exact if_neg hn
    go_wp2;go_roundw
    ·exact⟨j+1,by omega,by go_num,by rw[aE.1];exact bU.1⟩
    simp[intOf];omega
   have dt:(t != -1)=true:=by simp[aO]
   have a5:Hv (kH fx cs O0 (j+1)=kH fx cs O0 j):=Hd<|by show _=_;rw[cr.1,ht];exact if_neg aO
   clear aO ht;go_wp2;go_roundw
   ·exact⟨j+1,by omega,by go_num,by rw[a5.1];exact av.1⟩
   simp[intOf];omega
  have b2:j=D:=by omega
  have du:=dF (by omega:D<=j)
  have dz:Hv (aD W1 wr [.cel (aZ (nT d fx cs (r+1))) (.slice A D c)]):=Hd<|by
   have hs:=av.1;rw[b2]at hs;show aD _ _ _;rw[c4.1,aV.1];exact hs
  clear b2;go_wp2;go_roundw
  ·exact⟨r+1,by omega,by go_num,dz.1⟩
  simp[intOf];omega
 have c7:r=8:=by omega
 subst c7;have dr:decide (((8:Nat):Int)<8)=false:=by simp
 have HV:=Hd (HS.1.lowerC be.1 (lo:=W1.heap.size) (hi:=W1.heap.size) be.1.size (Nat.le_refl _) (Chg.refl' _ _ _));go_wp2;go_ret;exact⟨_,_,rfl,HV.1⟩
theorem uy{d:Dev}{ks o:List Int}{g:List aL}{k:Nat}(h:jP d ks o g k=none):∀{m},k<=m→jP d ks o g m=none
 | 0,hm=>by rw[show k=0 by omega]at h;exact h
 | m+1,hm=>by
  by_cases e:k=m+1
  ·subst e;exact h
  rw[jP,uy h (show k<=m by omega)];rfl
def oB(ks g:List Int)(n j b:Nat):List Int:=ioL ks g n b++List.replicate (j-b) 0
theorem DL(ks g:List Int)(n b:Nat):(ioL ks g n b).length=b:=by simp[ioL]
theorem zI(ks g:List Int)(n b:Nat):ioL ks g n (b+1)=ioL ks g n b++[ioT ks g n b]:=by
 unfold ioL;rw[List.range_succ,List.map_append];rfl
theorem M5(ks j:List Int)(n g:Nat):oB ks j n g 0=List.replicate g 0:=by simp[oB,ioL]
theorem M6(ks j:List Int)(n g:Nat):oB ks j n g g=ioL ks j n g:=by simp[oB]
theorem JU(ks j:List Int)(n:Nat){g b:Nat}(h:b<g):(oB ks j n g b).set b (ioT ks j n b)=oB ks j n g (b+1):=by
 unfold oB;rw[List.set_append_right _ _ (by rw[DL];exact Nat.le_refl _),DL,Nat.sub_self,show g-b=(g-(b+1))+1 by omega,List.replicate_succ,List.set_cons_zero,zI,List.append_assoc];rfl
theorem Nu(ks g:List Int)(n:Nat){j b:Nat}(h:b<j):(oB ks g n j (b+1))[b]?.getD 0=ioT ks g n b:=by
 rw[←JU ks g n h,List.getElem?_set_self]
 ·rfl
 unfold oB;rw[List.length_append,DL,List.length_replicate];omega
theorem Em{P:List Int}{b:Nat}(hb:b<P.length)(h0:P[b]?.getD 0<0){t u:Int}(j:0<=u):u∈P.set b t↔u∈P∨u=t:=by
 constructor
 ·intro h
  rcases List.mem_or_eq_of_mem_set h with h|h
  ·exact .inl h
  exact .inr h
 rintro(h|rfl)
 ·obtain⟨i,hi,rfl⟩:=List.getElem_of_mem h
  have g:b≠i:=by
   rintro rfl;rw[List.getElem?_eq_getElem hi,Option.getD_some]at h0;omega
  rw[show P[i]=(P.set b t)[i]'(by rw[List.length_set];exact hi) by rw[List.getElem_set_ne g]];exact List.getElem_mem _
 have h2:=List.getElem_mem (l:=P.set b u) (n:=b) (by rw[List.length_set];exact hb);rw[List.getElem_set_self]at h2;exact h2
open Classical in
noncomputable def iniR (d:Dev) (ks:List Int) (cs:List Cn):Option (List Int):=if dW (ks.length:Int) cs then A8 d ks cs else none
theorem DN{d:Dev}{ks:List Int}{cs:List Cn}(h:¬dW (ks.length:Int) cs):iniR d ks cs=none:=if_neg h
theorem zJ{d:Dev}{ks:List Int}{cs:List Cn}(h:dW (ks.length:Int) cs):iniR d ks cs=A8 d ks cs:=if_pos h
theorem zK{d:Dev}(hd:bQ d=true){ks:List Int}{cs:List Cn}{p:List Int}(h:iniR d ks cs=some p):dW (ks.length:Int) cs/\dA d ks p:=by
 by_cases hc:dW (ks.length:Int) cs
 ·rw[zJ hc]at h;exact⟨hc,L9 hd (by have:=hc.blocks;omega) h⟩
 rw[DN hc]at h;exact absurd h (by simp)
theorem LF{ks g:List Int}{n b:Nat}(h:aW (ks[b]?.getD 0)=0):ioT ks g n b=g[ioN ks b*g.length/n]?.getD 0:=if_pos h
theorem LG{ks g:List Int}{n b:Nat}(h:¬aW (ks[b]?.getD 0)=0):ioT ks g n b=-1:=if_neg h
theorem JV(a:Int)(h1:-600<=a)(h2:a<=600):0<=a*a/\a*a<=360000:=by
 rcases Int.le_total 0 a with h|h
 ·exact⟨Int.mul_nonneg h h,(iB h h2 h h2).2⟩
 have:=iB (a:=-a) (b:=-a) (A:=600) (B:=600) (by omega) (by omega) (by omega) (by omega);rw[Int.neg_mul_neg]at this;exact this
theorem wX{d:Dev}(_hd:bQ d=true){g:List Int}(hi:∀t∈g,ai d t=true){x y:Int}(hx:0<=x/\x<=600)(j:0<=y/\y<=600){q:List Int}:∀{k:Nat} {B L:Int},k<=g.length→fI d g x y q k=(B,L)→-1<=B/\(0<=L/\L<=720000)
 | 0,B,L,_,h=>by
  rw[fI]at h;injection h with h1 h2
  omega
 | k+1,B,L,hk,h=>by
  rw[fI]at h
  split at h
  ·injection h with h1 h2
   have hm:g[k]?.getD 0∈g:=by rw[List.getElem?_eq_getElem (show k<g.length by omega)];exact List.getElem_mem _
   have h3:=hi _ hm;have z:=(aP.1 h3).2.1;have u:=zh h3 hx j;omega
  exact wX _hd hi hx j (show k<=g.length by omega) h
theorem yK(d:Dev)(H x y:Int)(D:List Int)(TA:Oh)(tn tc:Nat)(w:World)(hd:bQ d=true)(U:0<=x)(V:x<=600)(af:0<=y)(Y:y<=600)(hT:bT w TA tn D)(aL:tn<=1048576) :
  Calls Tryz.prog 184 #[.agg (dv d),.int .i64 H,.int .i64 x,.int .i64 y,.slice TA tn tc] w fun e w'=>e=.returned (.int .i64 (je d H x y D))/\Below w.heap.size w w':=by
 have bb:=Hd (aB (Below.refl w.heap.size w) (.cells (dv d) 36));have am:=Hd (aG w (.cells (dv d) 36));obtain⟨HT,HD⟩:=hd2 hT hd;obtain⟨w1,w2,w3,w4,_⟩:=ak hd;have bc:=uG d H;obtain⟨R,hR⟩:∃R,je d H x y D=R:=⟨_,rfl⟩;rw[hR];have HR:Hv (R=(fI d (fq d H) x y D (fq d H).length).1):=Hd<|hR.symm
 clear hT hR;go_enter Tryz.func184,Tryz.ntmps184;go_upto_region 1 with fail;generalize w.alloc (.cells (dv d) 36)=W9 at *;obtain⟨x0,x1,x2,x3,lx⟩:=bA (am.1);go_wp2_with fail;refine(eG d _).mono ?_;rw[hd];rintro _ wd ⟨rfl,ad⟩;have aZ:=Hd (aA bb.1 ad);have aq:=Hd (aF ad am.1);clear ad x0 x1 x2 x3 lx;go_wp2_with fail;refine(aM x 0 600 _).mono ?_;rw[aR.2 ⟨U,V⟩];rintro _ _ ⟨rfl,rfl⟩;go_wp2_with fail;refine(aM y 0 600 _).mono ?_;rw[aR.2 ⟨af,Y⟩];rintro _ _ ⟨rfl,rfl⟩;obtain⟨x0,x1,x2,x3,lx⟩:=bA (aq.1);go_wp2_with fail;refine(vI d H _).mono ?_;rintro _ wt ⟨A,m,c,rfl,o1,b1⟩;have HL:Hv ((fq d H).length=m):=Hd<|o1.len
 have HI:=Hd o1.ints;have aE:=Hd (aA aZ.1 b1);have aT:=Hd (aF b1 aq.1);have ah:Hv (∀t∈fq d H,ai d t=true):=Hd<|fun t ht=>(qg ht).1
 rw[HL.1]at bc;generalize fq d H=g at *;clear o1 b1 x0 x1 x2 x3 lx;go_wp2
 go_loopw[11,12,35] (fun p q r wr=>∃(k:Nat) (B L:Int),k<=m/\p=.int .i64 B/\q=.int .i64 L/\r=.int .i64 (k:Int)/\fI d g x y D k=(B,L)/\Below wt.heap.size wt wr) (fun p q r _=>m-(intOf r).toNat)
 ·exact⟨0,-1,0,by omega,rfl,rfl,rfl,rfl,Below.refl _ _⟩
 obtain⟨k,B,L,hk,rfl,rfl,rfl,hn,au⟩:=hrel;obtain⟨HN,j⟩:=hd2 hn au;clear hn au;have a5:Hv (-1<=B/\(0<=L/\L<=720000)):=Hd<|wX HD.1 ah.1 ⟨U,V⟩ ⟨af,Y⟩ (show k<=g.length by rw[HL.1];exact hk) HN.1
 by_cases ap:k<m
 ·have aY:=dT (by omega:k<m);have Z:k<g.length:=by rw[HL.1];exact ap
  obtain⟨b,o,hA,hb,hc⟩:=HI.1.2 (by omega);have ck:=(j.1.cell (p:=⟨b,o+k,none⟩) hb).trans (hc k ap);have lb:=aJ j.1 hb;have G:=ah.1 _ (List.getElem_mem Z);rw[show g[k]=g[k]?.getD 0 by rw[List.getElem?_eq_getElem Z];rfl]at G;have K:Hv (fI d g x y D (k+1)=if g[k]?.getD 0∉D/\(B<0∨qf d x y (g[k]?.getD 0)<L)then(g[k]?.getD 0,qf d x y (g[k]?.getD 0))else(B,L)):=Hd<|by show _=_;rw[fI,HN.1]
  have aU:=Hd hA;clear Z hc hA;obtain rfl:=aU.1;obtain⟨a0,a1,a2,a3,a4⟩:=jL G;clear a4;obtain⟨_,t0,t1⟩:=aP.1 G;have bE:=(eu HD.1).2;have bC:=zh G ⟨U,V⟩ ⟨af,Y⟩;have ag:Hv (qf d x y (g[k]?.getD 0)=(100*(g[k]?.getD 0%d.W)-x)*(100*(g[k]?.getD 0%d.W)-x)+(100*(g[k]?.getD 0/d.W)-y)*(100*(g[k]?.getD 0/d.W)-y)):=Hd<|rfl
  generalize qf d x y (g[k]?.getD 0)=Q at *;generalize g[k]?.getD 0=t at *;have q0:¬d.W=0:=by omega
  have q1:t.tmod d.W=t%d.W:=Int.tmod_eq_emod_of_nonneg t0;have q2:IntKind.i64.wrap (t.tdiv d.W)=t/d.W:=IntWalk.i64_quo _ _ ⟨t0,by omega,by omega⟩;obtain⟨tx,aC⟩:∃z,t%d.W=z:=⟨_,rfl⟩;obtain⟨ty,hty⟩:∃z,t/d.W=z:=⟨_,rfl⟩;rw[aC]at q1 a0 a1 ag;rw[hty]at q2 a2 a3 ag;obtain⟨i0,i1⟩:=ib (by omega:k<m);clear aC hty G;have a6:=Hd (HT.1.below (aA aE.1 j.1));go_wp2_with fail;refine(mZ TA tn tc D t _ a6.1 aL).mono ?_;rintro _ _ ⟨rfl,rfl⟩;by_cases hm:t∈D
  ·rw[decide_eq_true hm];have u:Hv (fI d g x y D (k+1)=(B,L)):=Hd<|by show _=_;rw[K.1,if_neg (fun h=>h.1 hm)]
   clear hm;go_wp2;go_roundw
   ·exact⟨k+1,B,L,by omega,by first|rfl|trivial,by first|rfl|trivial,by go_num,u.1,j.1⟩
   simp[intOf];omega
  rw[decide_eq_false hm];have ax:=aF j.1 aT.1;obtain⟨x0,x1,x2,x3,lx⟩:=bA (ax);clear ax;obtain⟨bz,bI,bw⟩:=a5.1;go_upto_region 8 with fail
  go_quiet (fail)
  clear x0 x1 x2 x3 lx ck lb q1 q2;obtain⟨J,aS⟩:∃z,100*tx-x=z:=⟨_,rfl⟩;obtain⟨I,aW⟩:∃z,100*ty-y=z:=⟨_,rfl⟩;have ao:Hv (J*J+I*I=Q):=Hd<|by show _=_;rw[ag.1,aS,aW]
  have aX:=JV J (by omega) (by omega);have aO:=JV I (by omega) (by omega);have bd:IntKind.i64.wrap (J*J)=J*J:=IntWalk.i64_in _ (by omega);have aV:IntKind.i64.wrap (I*I)=I*I:=IntWalk.i64_in _ (by omega);obtain⟨xx,ay⟩:∃z,J*J=z:=⟨_,rfl⟩;obtain⟨yy,ar⟩:∃z,I*I=z:=⟨_,rfl⟩;rw[ay,ar]at ao;rw[ay]at bd aX;rw[ar]at aV aO;have be:=ao.1;go_upto_region 10 with fail;by_cases hb:B<0
  ·have db:decide (B<0)=true:=decide_eq_true hb;have u:Hv (fI d g x y D (k+1)=(t,Q)):=Hd<|by show _=_;rw[K.1,if_pos ⟨hm,.inl hb⟩]
   clear hb hm;go_wp2;go_roundw
   ·exact⟨k+1,t,Q,by omega,rfl,rfl,by go_num,u.1,ae j.1 _⟩
   simp[intOf];omega
  have db:decide (B<0)=false:=decide_eq_false hb;by_cases hl:Q<L
  ·have dl:decide (Q<L)=true:=decide_eq_true hl;have u:Hv (fI d g x y D (k+1)=(t,Q)):=Hd<|by show _=_;rw[K.1,if_pos ⟨hm,.inr hl⟩]
   clear hb hl hm;go_wp2;go_roundw
   ·exact⟨k+1,t,Q,by omega,rfl,rfl,by go_num,u.1,ae j.1 _⟩
   simp[intOf];omega
  have dl:decide (Q<L)=false:=decide_eq_false hl;have u:Hv (fI d g x y D (k+1)=(B,L)):=Hd<|by show _=_;rw[K.1,if_neg (by rintro⟨_,h|h⟩;exact hb h;exact hl h)]
  clear hb hl hm;go_wp2;go_roundw
  ·exact⟨k+1,B,L,by omega,rfl,rfl,by go_num,u.1,ae j.1 _⟩
  simp[intOf];omega
 have aD:k=m:=by omega
 have aY:=dF (by omega:m<=k)
 have HV:Hv (B=R):=Hd<|by
  show _=_;rw[HR.1,HL.1,←aD,HN.1]
 clear aD;go_wp2;go_ret;exact⟨aQ HV.1,aA aE.1 j.1⟩
theorem wY(d:Dev)(H x y:Int)(D:List Int)(TA:Oh)(tn tc:Nat)(w:World)(hd:bQ d=true)(U:0<=x)(V:x<=600)(ad:0<=y)(Y:y<=600)(hT:bT w TA tn D)(az:tn<=1048576) :
  Calls Tryz.prog 163 #[.agg (dv d),.int .i64 H,.int .i64 x,.int .i64 y,.slice TA tn tc] w fun e w'=>e=.returned (.int .i64 (je d H x y D))/\Below w.heap.size w w':=by
 have aZ:=Hd (aB (Below.refl w.heap.size w) (.cells (dv d) 36));have ah:=Hd (aG w (.cells (dv d) 36));obtain⟨HT,HD⟩:=hd2 hT hd;obtain⟨w1,w2,w3,w4,_⟩:=ak hd;have a5:=uG d H;obtain⟨R,hR⟩:∃R,je d H x y D=R:=⟨_,rfl⟩;rw[hR];have HR:Hv (R=(fI d (fq d H) x y D (fq d H).length).1):=Hd<|hR.symm
 clear hT hR;go_enter Tryz.func163,Tryz.ntmps163;go_upto_region 1 with fail;generalize w.alloc (.cells (dv d) 36)=W9 at *;go_wp2_with fail;refine(bV x 0 600 _).mono ?_;rw[aR.2 ⟨U,V⟩];rintro _ _ ⟨rfl,rfl⟩;go_wp2_with fail;refine(bV y 0 600 _).mono ?_;rw[aR.2 ⟨ad,Y⟩];rintro _ _ ⟨rfl,rfl⟩;obtain⟨x0,x1,x2,x3,lx⟩:=bA (ah.1);go_wp2_with fail;refine(su d H _).mono ?_;rintro _ wt ⟨A,m,c,rfl,o1,b1⟩;have HL:Hv ((fq d H).length=m):=Hd<|o1.len
 have HI:=Hd o1.ints;have av:=Hd (aA aZ.1 b1);have aH:=Hd (aF b1 ah.1);have ag:Hv (∀t∈fq d H,ai d t=true):=Hd<|fun t ht=>(qg ht).1
 rw[HL.1]at a5;generalize fq d H=g at *;clear o1 b1 x0 x1 x2 x3 lx;go_wp2
 go_loopw[12,13,14] (fun p q r wr=>∃(k:Nat) (B L:Int),k<=m/\p=.int .i64 B/\q=.int .i64 L/\r=.int .i64 (k:Int)/\fI d g x y D k=(B,L)/\Below wt.heap.size wt wr) (fun p q r _=>m-(intOf r).toNat)
 ·exact⟨0,-1,0,by omega,rfl,rfl,rfl,rfl,Below.refl _ _⟩
 obtain⟨k,B,L,hk,rfl,rfl,rfl,hn,ao⟩:=hrel;obtain⟨HN,j⟩:=hd2 hn ao;clear hn ao;have aT:Hv (-1<=B/\(0<=L/\L<=720000)):=Hd<|wX HD.1 ag.1 ⟨U,V⟩ ⟨ad,Y⟩ (show k<=g.length by rw[HL.1];exact hk) HN.1
 by_cases al:k<m
 ·have aO:=dT (by omega:k<m);have Z:k<g.length:=by rw[HL.1];exact al
  obtain⟨b,o,hA,hb,hc⟩:=HI.1.2 (by omega);have ck:=(j.1.cell (p:=⟨b,o+k,none⟩) hb).trans (hc k al);have lb:=aJ j.1 hb;have G:=ag.1 _ (List.getElem_mem Z);rw[show g[k]=g[k]?.getD 0 by rw[List.getElem?_eq_getElem Z];rfl]at G;have K:Hv (fI d g x y D (k+1)=if g[k]?.getD 0∉D/\(B<0∨qf d x y (g[k]?.getD 0)<L)then(g[k]?.getD 0,qf d x y (g[k]?.getD 0))else(B,L)):=Hd<|by show _=_;rw[fI,HN.1]
  have aI:=Hd hA;clear Z hc hA;obtain rfl:=aI.1;obtain⟨a0,a1,a2,a3,a4⟩:=jL G;clear a4;obtain⟨_,t0,t1⟩:=aP.1 G;have bw:=(eu HD.1).2;have bu:=zh G ⟨U,V⟩ ⟨ad,Y⟩;have af:Hv (qf d x y (g[k]?.getD 0)=(100*(g[k]?.getD 0%d.W)-x)*(100*(g[k]?.getD 0%d.W)-x)+(100*(g[k]?.getD 0/d.W)-y)*(100*(g[k]?.getD 0/d.W)-y)):=Hd<|rfl
  generalize qf d x y (g[k]?.getD 0)=Q at *;generalize g[k]?.getD 0=t at *;have q0:¬d.W=0:=by omega
  have q1:t.tmod d.W=t%d.W:=Int.tmod_eq_emod_of_nonneg t0;have q2:IntKind.i64.wrap (t.tdiv d.W)=t/d.W:=IntWalk.i64_quo _ _ ⟨t0,by omega,by omega⟩;obtain⟨tx,ar⟩:∃z,t%d.W=z:=⟨_,rfl⟩;obtain⟨ty,hty⟩:∃z,t/d.W=z:=⟨_,rfl⟩;rw[ar]at q1 a0 a1 af;rw[hty]at q2 a2 a3 af;obtain⟨i0,i1⟩:=ib (by omega:k<m);clear ar hty G;have ap:=aF j.1 aH.1;obtain⟨x0,x1,x2,x3,lx⟩:=bA (ap);clear ap;obtain⟨bs,bB,bq⟩:=aT.1;go_upto_region 9 with fail
  go_quiet (fail)
  go_upto_region 10 with fail
  go_quiet (fail)
  clear x0 x1 x2 x3 lx q1 q2;obtain⟨J,aE⟩:∃z,100*tx-x=z:=⟨_,rfl⟩;obtain⟨I,aL⟩:∃z,100*ty-y=z:=⟨_,rfl⟩;have aj:Hv (J*J+I*I=Q):=Hd<|by show _=_;rw[af.1,aE,aL]
  have aN:=JV J (by omega) (by omega);have aD:=JV I (by omega) (by omega);have a7:IntKind.i64.wrap (J*J)=J*J:=IntWalk.i64_in _ (by omega);have aK:IntKind.i64.wrap (I*I)=I*I:=IntWalk.i64_in _ (by omega);obtain⟨xx,aq⟩:∃z,J*J=z:=⟨_,rfl⟩;obtain⟨yy,am⟩:∃z,I*I=z:=⟨_,rfl⟩;rw[aq,am]at aj;rw[aq]at a7 aN;rw[am]at aK aD;have a8:=aj.1;go_wp2_with fail;refine(sD TA tn tc D t _ (HT.1.below (aA av.1 (ae j.1 _))) az).mono ?_;rintro _ _ ⟨rfl,rfl⟩;by_cases hm:t∈D
  ·rw[decide_eq_true hm];have u:Hv (fI d g x y D (k+1)=(B,L)):=Hd<|by show _=_;rw[K.1,if_neg (fun h=>h.1 hm)]
   clear hm;go_wp2;go_roundw
   ·exact⟨k+1,B,L,by omega,rfl,rfl,by go_num,u.1,ae j.1 _⟩
   simp[intOf];omega
  rw[decide_eq_false hm];by_cases hb:B<0
  ·have db:decide (B<0)=true:=decide_eq_true hb;have u:Hv (fI d g x y D (k+1)=(t,Q)):=Hd<|by show _=_;rw[K.1,if_pos ⟨hm,.inl hb⟩]
   clear hb hm;go_wp2;go_roundw
   ·exact⟨k+1,t,Q,by omega,rfl,rfl,by go_num,u.1,ae j.1 _⟩
   simp[intOf];omega
  have db:decide (B<0)=false:=decide_eq_false hb;by_cases hl:Q<L
  ·have dl:decide (Q<L)=true:=decide_eq_true hl;have u:Hv (fI d g x y D (k+1)=(t,Q)):=Hd<|by show _=_;rw[K.1,if_pos ⟨hm,.inr hl⟩]
   clear hb hl hm;go_wp2;go_roundw
   ·exact⟨k+1,t,Q,by omega,rfl,rfl,by go_num,u.1,ae j.1 _⟩
   simp[intOf];omega
  have dl:decide (Q<L)=false:=decide_eq_false hl;have u:Hv (fI d g x y D (k+1)=(B,L)):=Hd<|by show _=_;rw[K.1,if_neg (by rintro⟨_,h|h⟩;exact hb h;exact hl h)]
  clear hb hl hm;go_wp2;go_roundw
  ·exact⟨k+1,B,L,by omega,rfl,rfl,by go_num,u.1,ae j.1 _⟩
  simp[intOf];omega
 have au:k=m:=by omega
 have aO:=dF (by omega:m<=k)
 have HV:Hv (B=R):=Hd<|by
  show _=_;rw[HR.1,HL.1,←au,HN.1]
 clear au;go_wp2;go_ret;exact⟨aQ HV.1,aA av.1 j.1⟩
theorem wm(d:Dev)(ks:List Int)(cs:List Cn)(KA CA:Oh)(j kc cn cc:Nat)(w:World)(hK:bT w KA j ks)(hC:RdC w w.heap.size (bL cs) (.slice CA cn cc))(hd:bQ d=true)(bG:∀k∈ks,0<=k/\k<=3)(bJ:∀c∈cs,c.sinks.length<=1048576)(db:j<=1048576) :
  Calls Tryz.prog 95 #[.agg (dv d),.slice KA j kc,.slice CA cn cc] w fun e w'=>(∃p A,iniR d ks cs=some p/\e=.returned (.tuple #[.slice A j j,.bool true])/\Own w.heap.size w' A j j p/\Below w.heap.size w w')∨(iniR d ks cs=none/\(∃A n c,e=.returned (.tuple #[.slice A n c,.bool false]))/\Below w.heap.size w w'):=by
 have cU:=Hd (aB (Below.refl w.heap.size w) (.cells (dv d) 36));have bI:=Hd (aG w (.cells (dv d) 36));obtain⟨HK,HC⟩:=hd2 hK hC;have R:Hv (ks.length=j):=Hd<|hK.1
 obtain⟨HD,cS⟩:=hd2 hd bJ
 have bm:Hv (∀k:Nat,k<j→0<=aW (ks[k]?.getD 0)):=Hd<|fun k hk=>by
  have h:=bG (ks[k]?.getD 0) (by rw[List.getElem?_eq_getElem (by rw[hK.1];exact hk)];exact List.getElem_mem _);unfold aW
  split
  ·omega
  split
  ·omega
  split <;> omega
 have cW:=uG d 0;clear hK hC hd bG bJ;go_enter Tryz.func95,Tryz.ntmps95;go_upto_region 1 with fail;generalize w.alloc (.cells (dv d) 36)=W9 at *;obtain⟨x0,x1,x2,x3,lx⟩:=bA (bI.1);go_wp2_with fail;refine(eG d _).mono ?_;rw[HD.1];rintro _ wd ⟨rfl,bh⟩;have a8:=Hd (aA cU.1 bh);have cH:=Hd (aF bh bI.1);clear bh x0 x1 x2 x3 lx;go_wp2_with fail;refine(qD (j:Int) cs CA cn cc _ (HC.1.below a8.1) cS.1).mono ?_;by_cases aj:dW (j:Int) cs
 case neg =>
  rw[dU aj];rintro _ w1 ⟨rfl,b1⟩;have au:Hv (iniR d ks cs=none):=Hd<|DN (by rw[R.1];exact aj)
  go_wp2
  go_ret2
  exact .inr ⟨au.1,⟨_,_,_,rfl⟩,aA a8.1 b1⟩
 rw[bZ aj];rintro _ w1 ⟨rfl,b1⟩;have bl:=Hd (aA a8.1 b1);have cp:=Hd (aF b1 cH.1);have bS:Hv (iniR d ks cs=A8 d ks cs):=Hd<|zJ (by rw[R.1];exact aj)
 have cX:j<=64:=by have:=aj.blocks;omega
 have bz:=Hd aj;clear b1 aj;obtain⟨W1,rfl⟩:∃x,x=w1:=⟨w1,rfl⟩;go_wp2
 go_loopw[8,34] (fun v i wr=>∃k:Nat,k<=j/\v=.int .i64 (ioN ks k:Int)/\i=.int .i64 (k:Int)/\Below W1.heap.size W1 wr) (fun _ i _=>j-(intOf i).toNat)
 ·exact⟨0,by omega,rfl,rfl,Below.refl _ _⟩
 obtain⟨k,hk,rfl,rfl,bK⟩:=hrel;have H:=Hd bK;clear bK;by_cases q:k<j
 ·have av:=dT (by omega:k<j);have Z:k<ks.length:=by rw[R.1];exact q
  obtain⟨b,o,Y,hb,hc⟩:=HK.1.2 (by omega);have ck:=((aA bl.1 H.1).cell (p:=⟨b,o+k,none⟩) hb).trans (hc k q);have lb:=aJ (aA bl.1 H.1) hb;have cd:=bm.1 k q;have aw:=Hd Y;obtain⟨i0,i1⟩:=ib (by omega:k<j);have ah:=Hd (qi ks Z);have cb:=xI ks k;clear Z hc Y;obtain rfl:=aw.1;generalize ioN ks k=N at *;generalize ks[k]?.getD 0=kd at *;have am:=Hd (fun(v:World)=>kG kd v);generalize aW kd=bt at *;have d1:decide (bt<0)=false:=decide_eq_false (by omega);go_wp2_with fail;refine(am.1 _).mono ?_;rintro _ _ ⟨rfl,rfl⟩;go_wp2_with fail;refine(am.1 _).mono ?_;rintro _ _ ⟨rfl,rfl⟩;by_cases hz:bt=0
  ·have dz:(bt==0)=true:=by simp[hz]
   have af:Hv (ioN ks (k+1)=N+1):=Hd<|by show _=_;rw[ah.1,if_pos hz]
   clear hz;go_wp2;go_roundw
   ·exact⟨k+1,by omega,by rw[af.1];go_num,by go_num,H.1⟩
   simp[intOf];omega
  have dz:(bt==0)=false:=by simp[hz]
  have af:Hv (ioN ks (k+1)=N):=Hd<|by show _=_;rw[ah.1,if_neg hz];rfl
  clear hz;go_wp2;go_roundw
  ·exact⟨k+1,by omega,by rw[af.1],by go_num,H.1⟩
  simp[intOf];omega
 have D:k=j:=by omega
 have av:=dF (by omega:j<=k);obtain⟨B,ai⟩:∃B,ioN ks j=B:=⟨_,rfl⟩;have ar:=Hd ai;have cb:B<=j:=by rw[←ai];exact xI ks j
 rw[D,ai];clear D ai hk;go_upto_region 12 with fail;have Q:=Hd (aF H.1 cp.1);obtain⟨x0,x1,x2,x3,lx⟩:=bA (Q.1);go_wp2_with fail;refine(vI d 0 _).mono ?_;rintro _ w2 ⟨TA,m,tc,rfl,o2,b2⟩;have aN:Hv ((fq d 0).length=m):=Hd<|o2.len
 have cC:=Hd o2.ints;have aQ:=Hd (aA (aA bl.1 H.1) b2);have bE:=Hd (aF b2 Q.1);rw[aN.1]at cW
 have bj:Hv (A8 d ks cs=if m<B then none else jP d ks (ioL ks (fq d 0) B j) (nT d (ioL ks (fq d 0) B j) cs 8) j):=Hd<|by
  show _=_;unfold A8;rw[R.1,aN.1,ar.1]
 have ca:Hv (B<=m→yQ d ks (ioL ks (fq d 0) B j)):=Hd<|fun h=>by
  have h2:=Ii (d:=d) (ks:=ks) (by rw[R.1,ar.1,aN.1];exact h);rw[R.1,ar.1]at h2;exact h2
 generalize fq d 0=TS at *;clear o2 b2 x0 x1 x2 x3 lx;by_cases bv:m<B
 ·have dm:decide ((B:Int)>(m:Int))=true:=by simp;omega
  have cY:decide (m<B)=true:=by simp;omega
  have au:Hv (iniR d ks cs=none):=Hd<|by show _=_;rw[bS.1,bj.1,if_pos bv]
  go_wp2
  go_ret2
  exact .inr ⟨au.1,⟨_,_,_,rfl⟩,aQ.1⟩
 have dm:decide ((B:Int)>(m:Int))=false:=by simp;omega
 have cY:decide (m<B)=false:=by simp;omega
 have ax:Hv (iniR d ks cs=jP d ks (ioL ks TS B j) (nT d (ioL ks TS B j) cs 8) j):=Hd<|by show _=_;rw[bS.1,bj.1,if_neg bv]
 have bb:=Hd (ca.1 (by omega));clear ca bj;obtain⟨cG,hi,bu,bR,bC⟩:=info_parts iE;have bw:=fun W=>dQ (P:=Tryz.prog) 26 3 cG _ Tryz.underlying26 hi bu .i64 .i64 j j (Nat.le_refl _) (by rw[bC];omega) (by omega) W;rw[bR,Nat.mul_one,show(Value.int .i64 0).cells=#[Value.int .i64 0] from rfl,kM]at bw;clear hi bu bR bC;have a7:=((aD.refl w2).consOwn (aB (Below.refl _ _) (.cells (arr (List.replicate j 0)) 3)) (Own.arr (n:=j) (aG w2 _) (Nat.le_refl _) (by unfold maxLen;omega) (by simp))).pushNil 3 1;go_upto_region 17 with fail;obtain⟨gO,a2⟩:∃g,w2.heap.size=g:=⟨_,rfl⟩;rw[a2]at a7
 (try rw[a2])
 have cL:Hv (aD w2 (w2.alloc (.cells (arr (List.replicate j 0)) 3)) [.cel (aI (oB ks TS B j 0)) (.slice (some ⟨gO,0,none⟩) j j),.cel (aI []) (.slice none 0 0)]):=Hd<|by
  show aD _ _ _;rw[M5];exact a7
 clear a2 a7 bw;generalize w2.alloc (.cells (arr (List.replicate j 0)) 3)=w3 at *;go_wp2
 go_loopw[14,15,59] (fun tv iv kv wr=>∃(k:Nat) (tk:List Int) (A:Oh) (n c:Nat),k<=j/\tv=.slice A n c/\iv=.int .i64 (ioN ks k:Int)/\kv=.int .i64 (k:Int)/\n<=k/\(∀t:Int,0<=t→(t∈tk↔t∈ioL ks TS B k))/\aD w2 wr [.cel (aI (oB ks TS B j k)) (.slice (some ⟨gO,0,none⟩) j j),.cel (aI tk) (.slice A n c)]) (fun _ _ kv _=>j-(intOf kv).toNat)
 ·exact⟨0,[],none,0,0,by omega,rfl,rfl,rfl,by omega,fun t _=>by simp[ioL],cL.1⟩
 obtain⟨k,tk,A,n,c,hk,rfl,rfl,rfl,bW,I,hs⟩:=hrel;obtain⟨HS,G⟩:=hd2 hs I;have H:=Hd (aA aQ.1 hs.bel);clear hs I;by_cases q:k<j
 ·have av:=dT (by omega:k<j);have Z:k<ks.length:=by rw[R.1];exact q
  obtain⟨b,o,Y,hb,hc⟩:=HK.1.2 (by omega);have ck:=(H.1.cell (p:=⟨b,o+k,none⟩) hb).trans (hc k q);have lb:=aJ H.1 hb;have cd:=bm.1 k q;have aw:=Hd Y;obtain⟨i0,i1⟩:=ib (by omega:k<j);have ah:=Hd (qi ks Z);have bX:=Hd (zI ks TS B k);have b7:=Hd (JU ks TS B q);have cK:=Hd (Nu ks TS B q);have dy:=xI ks k;have cJ:Hv (aW (ks[k]?.getD 0)=0→ioN ks k<B):=Hd<|fun h=>by rw[←ar.1,←R.1];exact yh ks Z h
  have bO:Hv (aW (ks[k]?.getD 0)=0→ioT ks TS B k=TS[ioN ks k*m/B]?.getD 0):=Hd<|fun h=>by rw[LF h,aN.1]
  have bF:Hv (¬aW (ks[k]?.getD 0)=0→ioT ks TS B k=-1):=Hd<|fun h=>LG h
  clear Z hc Y;obtain rfl:=aw.1;generalize ioN ks k=N at *;generalize ks[k]?.getD 0=kd at *;generalize ioT ks TS B k=V at *;have am:=Hd (fun(v:World)=>kG kd v);generalize aW kd=bt at *;obtain⟨g1,K,_,lg,cO,fO,z⟩:=HS.1.setI 0 rfl q;obtain rfl:gO=g1:=by injection K with h;injection h
  have az:=Hd (z (-1));clear z K;go_upto_region 23 with fail;clear ck lb cO fO lg;generalize wr.setCell ⟨gO,k,none⟩ (.int .i64 (-1))=W4 at *;go_wp2_with fail;refine(am.1 _).mono ?_;rintro _ _ ⟨rfl,rfl⟩;obtain⟨g1,K,_,lg,cO,fO,z⟩:=az.1.setI 0 rfl q;obtain rfl:gO=g1:=by injection K with h;injection h
  have bk:=Hd (z V);by_cases hz:bt=0
  ·have dz:(bt==0)=true:=by simp[hz]
   have af:Hv (ioN ks (k+1)=N+1):=Hd<|by show _=_;rw[ah.1,if_pos hz]
   have ai:=cJ.1 hz;have bB:=bO.1 hz;have aP:N*m/B<m:=L8 ai (by omega);obtain⟨cP,ot,bH,ay,bs⟩:=cC.1.2 (by omega);have cT:=((az.1.bel).cell (p:=⟨cP,ot+N*m/B,none⟩) ay).trans (bs _ aP);have lT:=aJ az.1.bel ay;rw[←bB]at cT;have cI:=Hd bH;obtain⟨P,hP⟩:∃P,N*m=P:=⟨_,rfl⟩;have c4:P<=64*36:=by rw[←hP];exact Nat.mul_le_mul (by omega) (by omega)
   rw[hP]at aP cT;have cQ:P/B<=P:=Nat.div_le_self _ _;obtain⟨J,hJ⟩:∃J,P/B=J:=⟨_,rfl⟩;rw[hJ]at aP cT cQ;have e0:(N:Int)*(m:Int)=(P:Int):=by rw[←hP,Int.natCast_mul]
   have e1:IntKind.i64.wrap ((N:Int)*(m:Int))=(P:Int):=by rw[e0];exact IntWalk.i64_in _ (by omega)
   have e2:¬(B:Int)=0:=by omega
   have e4:(P:Int).tdiv (B:Int)=(J:Int):=by rw[Int.tdiv_eq_ediv_of_nonneg (by omega),←Int.natCast_ediv,hJ]
   have e3:IntKind.i64.wrap ((P:Int).tdiv (B:Int))=(J:Int):=by rw[e4];exact IntWalk.i64_in _ (by omega)
   have e5:(P:Int)/(B:Int)=(J:Int):=by rw[←Int.natCast_ediv,hJ]
   have e6:wrap64 (J:Int)=(J:Int):=IntWalk.wrap64_in _ ⟨by omega,by omega⟩;have j1:(J:Int)<(m:Int):=Int.ofNat_lt.2 aP;have j0:(0:Int)<=(J:Int):=Int.natCast_nonneg J;have U:=bk.1;simp only[List.set_cons_zero,List.set_set]at U;rw[b7.1]at U;have aR:=Hd U;clear hz bH bs bB hP hJ U z K bk ai ay;obtain rfl:=cI.1;go_upto_region 25 with fail;obtain⟨g2,b3,_,dt,cM,dw,_⟩:=aR.1.setI 0 rfl q;obtain rfl:gO=g2:=by injection b3 with h;injection h
   rw[cK.1]at cM;clear cT lT cO fO lg b3;generalize W4.setCell ⟨gO,k,none⟩ (.int .i64 V)=W5 at *
   go_wp2_with (at_builtin;refine bP rfl _ _ rfl _ (aR.1.alloc _) 1 A n c tk V _ (0,0) rfl rfl rfl (aG _ _) (by omega) ?_;intro g9 cap w9 S9 cE;have a1:=Hd S9;clear S9)
   go_roundw
   ·exact⟨k+1,tk++[V],_,n+1,_,by omega,rfl,by rw[af.1];go_num,by go_num,by omega,fun t ht=>by rw[bX.1,List.mem_append,List.mem_append,G.1 t ht],a1.1⟩
   simp[intOf];omega
  have dz:(bt==0)=false:=by simp[hz]
  have af:Hv (ioN ks (k+1)=N):=Hd<|by show _=_;rw[ah.1,if_neg hz];rfl
  have HV:=Hd (bF.1 hz);have U:=az.1;simp only[List.set_cons_zero]at U;rw[←HV.1,b7.1]at U;have aR:=Hd U;clear hz U az bk z K cO fO lg;go_wp2;go_roundw
  ·exact⟨k+1,tk,A,n,c,by omega,rfl,by rw[af.1],by go_num,by omega,fun t ht=>by
   rw[bX.1,List.mem_append,List.mem_singleton,G.1 t ht]
   constructor
   ·exact .inl
   rintro(h|h)
   ·exact h
   have:=HV.1;omega,aR.1⟩
  simp[intOf];omega
 have D:k=j:=by omega
 have av:=dF (by omega:j<=k);have hs:=HS.1;have I:=G.1;rw[D,M6]at hs;rw[D]at I;have bM:ioN ks k=ioN ks j:=by rw[D]
 rw[bM,ar.1];rw[D]at bW;clear HS G D bM hk;obtain⟨G,HS⟩:=hd2 I hs;clear I hs;generalize ioL ks TS B j=O at *;have aX:O.length=j:=by rw[bb.1.len,R.1]
 have aq:=Hd (wF HD.1 bb.1.fx bz.1 8);have Q:=Hd (aF HS.1.bel bE.1);go_upto_region 28 with fail;obtain⟨x0,x1,x2,x3,lx⟩:=bA (Q.1);go_wp2_with fail;refine(DK d O cs (some ⟨gO,0,none⟩) CA j j cn cc _ (HS.1.ints 0 rfl) (HC.1.below H.1) HD.1 bb.1.fx bz.1).mono ?_;rintro _ w5 ⟨WA,wc,rfl,S5⟩;have bN:=Hd (HS.1.consT S5.bel (S5.tree 0 rfl));obtain⟨WH,bU⟩:∃WH,nT d O cs 8=WH:=⟨_,rfl⟩;rw[bU]at ax bN aq;rw[aX]at aq;clear S5 bU x0 x1 x2 x3 lx HS aX;go_wp2
 go_loopw[14,97] (fun tv kv wr=>∃(k:Nat) (P tk:List Int) (A:Oh) (n c:Nat),k<=j/\tv=.slice A n c/\kv=.int .i64 (k:Int)/\n<=j+k/\jP d ks O WH k=some P/\(∀t:Int,0<=t→(t∈tk↔t∈P))/\aD w2 wr [.cel (aZ WH) (.slice WA j wc),.cel (aI P) (.slice (some ⟨gO,0,none⟩) j j),.cel (aI tk) (.slice A n c)]) (fun _ kv _=>j-(intOf kv).toNat)
 ·exact⟨0,O,tk,A,n,c,by omega,rfl,rfl,by omega,rfl,G.1,bN.1⟩
 obtain⟨k,P,tk,A,n,c,hk,rfl,rfl,cb,aT,I,hs⟩:=hrel;obtain⟨HS,G,HF⟩:=hd3 hs I aT;have H:=Hd (aA aQ.1 hs.bel);have Q:=Hd (aF hs.bel bE.1);clear hs I aT;by_cases q:k<j
 ·have av:=dT (by omega:k<j);have Z:k<ks.length:=by rw[R.1];exact q
  obtain⟨b,o,Y,hb,hc⟩:=HK.1.2 (by omega);have ck:=(H.1.cell (p:=⟨b,o+k,none⟩) hb).trans (hc k q);have lb:=aJ H.1 hb;have cd:=bm.1 k q;have aw:=Hd Y;obtain⟨i0,i1⟩:=ib (by omega:k<j);obtain⟨gW,oW,bV,lW,cx,cy⟩:=(HS.1.rd 0 rfl).pin (k:=k) (by rw[aq.1.len];exact q);have cF:=aq.1.bd (WH[k]?.getD aL.zero) (by rw[List.getElem?_eq_getElem (by rw[aq.1.len];exact q)];exact List.getElem_mem _);obtain⟨g1,K,_,lg,cO,fO,z⟩:=HS.1.setI 1 rfl q;obtain rfl:gO=g1:=by injection K with h;injection h
  obtain⟨cr,c2⟩:=hd2 bV z;have bD:=(HS.1.ints 1 rfl).1
  have a5:Hv (jP d ks O WH (k+1)=if 0<=P[k]?.getD 0 then some P else if je d (aW (ks[k]?.getD 0)) (WH[k]?.getD aL.zero).block (WH[k]?.getD aL.zero).pin P<0 then none else some (P.set k (je d (aW (ks[k]?.getD 0)) (WH[k]?.getD aL.zero).block (WH[k]?.getD aL.zero).pin P))):=Hd<|by
   show _=_;rw[jP,HF.1];rfl
  have b0:Hv (P[k]?.getD 0<0→∀t u:Int,0<=u→(u∈P.set k t↔u∈P∨u=t)):=Hd<|fun h t u hu=>Em (by rw[bD];exact q) h hu
  clear Z hc Y bV z K bD;obtain rfl:=aw.1;generalize ks[k]?.getD 0=kd at *;generalize WH[k]?.getD aL.zero=po at *;obtain⟨px,py⟩:=po;simp only at cx cy cF;generalize P[k]?.getD 0=x at *;have ah:=Hd (Ig d (aW kd) px py G.1);by_cases hx:0<=x
  ·have dx:decide (x≥0)=true:=decide_eq_true hx;have cu:decide (0<=x)=true:=decide_eq_true hx;have aO:Hv (jP d ks O WH (k+1)=some P):=Hd<|by show _=_;rw[a5.1,if_pos hx]
   clear hx;go_wp2;go_roundw
   ·exact⟨k+1,P,tk,A,n,c,by omega,rfl,by go_num,by omega,aO.1,G.1,HS.1⟩
   simp[intOf];omega
  have dx:decide (x≥0)=false:=decide_eq_false (by omega);have cu:decide (0<=x)=false:=decide_eq_false hx;have b9:=Hd (b0.1 (by omega));obtain⟨T,hT⟩:∃T,je d (aW kd) px py P=T:=⟨_,rfl⟩;have aO:Hv (jP d ks O WH (k+1)=if T<0 then none else some (P.set k T)):=Hd<|by show _=_;rw[a5.1,if_neg hx,←hT]
  have cq:Hv (∀v,Below wr.heap.size wr v→Calls Tryz.prog 184 #[.agg (dv d),.int .i64 (aW kd),.int .i64 px,.int .i64 py,.slice A n c] v fun e w'=>e=.returned (.int .i64 T)/\Below v.heap.size v w'):=Hd<|fun v hv=>by
   have h:=yK d (aW kd) px py tk A n c v HD.1 (by omega) (by omega) (by omega) (by omega) ((HS.1.ints 2 rfl).below hv) (by omega);rw[ah.1,hT]at h;exact h
  have am:=Hd (fun(v:World)=>kG kd v);generalize aW kd=bt at *;clear hT hx a5 b0;obtain rfl:=cr.1;go_upto_region 33 with fail;clear ck lb cO fO lg;have aE:Hv (∀w',Below wr.heap.size wr w'→(KD w' w.heap.size d (w'.cell? ⟨gW,oW+k*2,none⟩=some (.int .i64 px)/\w'.cell? ⟨gW,oW+k*2+1,none⟩=some (.int .i64 py)))):=Hd<|fun v hv=>⟨aC (k:=0) (aF hv Q.1) rfl,aC (k:=1) (aF hv Q.1) rfl,aC (k:=2) (aF hv Q.1) rfl,aC (k:=3) (aF hv Q.1) rfl,(hv.cell (p:=⟨gW,oW+k*2,none⟩) lW).trans cx,(hv.cell (p:=⟨gW,oW+k*2+1,none⟩) lW).trans cy⟩
  clear cx cy;obtain⟨x0,x1,x2,x3,cx,cy⟩:=aE.1 _ (Below.refl _ _);have lx:=aH Q.1;have hD:=(Below.refl wr.heap.size wr).drew
  go_cut[21] (fun v w'=>v=.int .i64 T/\Below wr.heap.size wr w')
  case first =>
   go_region_held3 (fun w'=>KD w' w.heap.size d (w'.cell? ⟨gW,oW+k*2,none⟩=some (.int .i64 px)/\w'.cell? ⟨gW,oW+k*2+1,none⟩=some (.int .i64 py)))
    (first|with_reducible exact aE.1 _ hD)
    ((first
     | (go_at_call 127;(with_reducible refine(am.1 _).mono ?_);rintro _ _ ⟨rfl,rfl⟩)
     | (go_at_call 184;(with_reducible refine(cq.1 _ hD).mono ?_);rintro _ w5 ⟨rfl,b5⟩;replace hD:=aA hD b5;clear b5)))
   all_goals
    go_wp2;go_meet;exact⟨rfl,hD⟩
  obtain⟨rfl,bc⟩:=hcut;have cm:=Hd (HS.1.below bc);have cD:=Hd (aA H.1 bc);clear bc x0 x1 x2 x3 cx cy lx hD lW;by_cases aK:T<0
  ·have dT:decide (T<0)=true:=decide_eq_true aK
   have au:Hv (iniR d ks cs=none):=Hd<|by
    show _=_;rw[ax.1];exact uy (k:=k+1) (by rw[aO.1,if_pos aK]) q
   go_wp2
   go_ret2
   exact .inr ⟨au.1,⟨_,_,_,rfl⟩,cD.1⟩
  have dT:decide (T<0)=false:=decide_eq_false aK;have cB:Hv (jP d ks O WH (k+1)=some (P.set k T)):=Hd<|by show _=_;rw[aO.1,if_neg aK]
  obtain⟨g1,K,_,lg,cO,fO,z⟩:=cm.1.setI 1 rfl q;obtain rfl:gO=g1:=by injection K with h;injection h
  have HU:=Hd (z T);clear z K aK;go_upto_region 37 with fail;clear cO fO lg;generalize wc.setCell ⟨gO,k,none⟩ (.int .i64 T)=W8 at *
  go_wp2_with (at_builtin;refine bP rfl _ _ rfl _ (HU.1.alloc _) 2 A n c tk T _ (0,0) rfl rfl rfl (aG _ _) (by omega) ?_;intro g9 cap w9 S9 cE;have a1:=Hd S9;clear S9)
  go_roundw
  ·exact⟨k+1,P.set k T,tk++[T],_,n+1,_,by omega,rfl,by go_num,by omega,cB.1,fun t ht=>by rw[List.mem_append,List.mem_singleton,G.1 t ht,b9.1 T t ht],a1.1⟩
  simp[intOf];omega
 have D:k=j:=by omega
 have av:=dF (by omega:j<=k);have b4:Hv (iniR d ks cs=some P):=Hd<|by show _=_;rw[ax.1,←D,HF.1]
 clear D;go_wp2
 go_ret2
 exact .inl ⟨P,_,b4.1,rfl,(HS.1.owned 1 rfl).more aQ.1.size,H.1⟩
end Go.Proofs.YtofihjoanjkdmaaGreat
