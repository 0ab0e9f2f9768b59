/- The reference's test of one block that is valid (printed by mky.py). -/
import Derived.Deep.CutBlock
import Derived.Deep.CutRange
import Derived.Deep.DeepCutAuto
import Derived.Test.YtofihjoanjkdmaaGreatImpV
import Derived.Test.YtofihjoanjkdmaaGreatLayEq
import Derived.Test.YtofihjoanjkdmaaGreatPackS
namespace Go.Proofs.YtofihjoanjkdmaaGreat
set_option maxHeartbeats 8000000
set_option maxRecDepth 100000
open Go.RowKit
theorem Da(l:aU)(SA LA OA:Oh)(sn sc ln lc on oc:Nat)(u z:Int)(es:List LeT)(G:Oh)(q D:Nat)(w:World)(h:fA w l SA LA OA sn sc ln lc on oc)(hf:bJ l)(hE:RdC w w.heap.size (ay es) (.slice G q D))(aM:q<=1048576)(B:ja l ⟨u,z,es⟩) :
  Calls Tryz.prog 110 #[ig l SA LA OA sn sc ln lc on oc,.agg #[.int .i64 u,.int .i64 z,.slice G q D]] w fun e w'=>e=.returned (.bool true)/\Below w.heap.size w w':=by
 have j:=Hd B;clear B;have Y:=hE.esN;obtain⟨HE,W⟩:=hd2 hE Y;clear hE Y;have Q:=Hd (aB (aB (Below.refl w.heap.size w) (.cells (bX l SA LA OA sn sc ln lc on oc) 41)) (.cells #[.int .i64 u,.int .i64 z,.slice G q D] 89));have hx:=dP (.cells #[.int .i64 u,.int .i64 z,.slice G q D] 89) (aG w (.cells (bX l SA LA OA sn sc ln lc on oc) 41));have hy:=aG (w.alloc (.cells (bX l SA LA OA sn sc ln lc on oc) 41)) (.cells #[.int .i64 u,.int .i64 z,.slice G q D] 89);simp only[World.size_alloc]at hy;obtain⟨H,I⟩:=hd2 hx hy;clear hx hy;obtain⟨J,R,K⟩:=h.lens;have aE:=hf.nseq;have ap:=hf.nlut;have ar:=hf.nout;have aW:=hf.inp;rw[J]at aE;rw[R]at ap;rw[K]at ar;obtain⟨HN,HF,Z,a0,aT⟩:=hd5 h hf J R K;have aV:Hv ((l.first:Int)=1+l.inputs+(sn:Int)):=Hd<|by show _=_;unfold aU.first;omega
 have aY:Hv ((l.count:Int)=1+l.inputs+(sn:Int)+(ln:Int)):=Hd<|by show _=_;unfold aU.count aU.first;omega
 clear h hf J R K;go_enter Tryz.func110,Tryz.ntmps110;go_upto_region 1 with fail;generalize (w.alloc (.cells (bX l SA LA OA sn sc ln lc on oc) 41)).alloc (.cells #[.int .i64 u,.int .i64 z,.slice G q D] 89)=W9 at *;obtain⟨x0,x1,x2,x3⟩:=cs4 H.1;obtain⟨y0,y1,y2⟩:=cs3 I.1;have lx:=aH H.1;have ly:=aH I.1;go_wp2_with fail;refine(rU l SA LA OA sn sc ln lc on oc u z es G q D _ (HN.1.below Q.1) HF.1 (HE.1.below Q.1) aM j.1.1).mono ?_;rintro _ w1 ⟨rfl,b1⟩;have g:=Hd (aA Q.1 b1);have U:=Hd (aF b1 H.1);have ag:=Hd (aF b1 I.1);clear b1 x0 x1 x2 x3 lx y0 y1 y2 ly;obtain⟨x0,x1,x2,x3⟩:=cs4 U.1;obtain⟨y0,y1,y2⟩:=cs3 ag.1;have lx:=aH U.1;have ly:=aH ag.1;have af:=Hd j.1.1;have av:=j.1.2;clear j
 rcases av with⟨h3,h0,h2,h5⟩|⟨h3,h0,h2⟩
 ·simp only at h3 h0 h2 h5;subst h3 h0;rw[W.1]at h2;have aw:=Hd (aR.2 (show(1:Int)<=(q:Int)/\(q:Int)<=2 from by omega));have H5:=Hd h5;clear h5;go_wp2_with fail;refine(bV (q:Int) 1 2 _).mono ?_;rw[aw.1];rintro _ w2 ⟨rfl,rfl⟩;go_wp2_with fail;refine(tK l SA LA OA sn sc ln lc on oc es G q D _ (HN.1.below g.1) HF.1 (HE.1.below g.1) (qK.1 af.1) (by omega)).mono ?_;rintro _ w3 ⟨PA,pn,pc,rfl,op,b3⟩;have am:=Hd (aA g.1 b3);have V:=op.len;change (qA l es).length=pn at V;have dp:decide ((pn:Int)<=5)=true:=decide_eq_true (by have:=H5.1;omega);clear b3 op V x0 x1 x2 x3 lx y0 y1 y2 ly;go_wp2;go_ret;exact⟨rfl,am.1⟩
 simp only at h3 h0 h2;subst h0;have aq:q=0:=by rw[←W.1];rfl
 subst aq;have d3:(u != 3)=true:=by simp;omega
 have a2:(u==3)=false:=by simp;omega
 by_cases k2:u=2
 ·subst k2;have au:=mq.1 af.1;rw[Z.1]at au;have hk:=h2 rfl;obtain⟨X,rfl⟩:∃X:Nat,z=(X:Int):=⟨z.toNat,by omega⟩;have hX:X<sn:=by omega
  unfold aU.sq at hk;rw[Int.toNat_natCast]at hk;obtain⟨bs,os,IA,im,ic,ad,ae,c0,c1,c2,r2⟩:=HN.1.sq.sq' (k:=X) (by rw[Z.1];exact hX);rw[hk]at c0;have aS:=aJ g.1 ae;rw[←g.1.cell (p:=⟨bs,os+X*3,none⟩) ae]at c0;have ak:=Hd ad;obtain⟨i0,i1⟩:=ib (by omega:X<sn);clear c1 c2 r2 hk h2 ad;obtain rfl:=ak.1;go_wp2;go_ret;exact⟨rfl,g.1⟩
 have d2:(u != 2)=true:=by simp[k2]
 clear h2 k2 h3;go_wp2;go_ret;exact⟨rfl,g.1⟩
theorem Ll{a b:List Int}{n m:Nat}(g:a.length=n)(hb:b.length=m):(∀q:Nat,q<n+m→(a++b)[q]?.getD 0=1)↔(∀q:Nat,q<n→a[q]?.getD 0=1)/\∀q:Nat,q<m→b[q]?.getD 0=1:=by
 subst g hb;refine⟨fun h=>⟨fun q hq=>?_,fun q hq=>?_⟩,fun h q hq=>?_⟩
 ·have:=h q (by omega);rwa[List.getElem?_append_left hq]at this
 ·have:=h (a.length+q) (by omega);rwa[List.getElem?_append_right (by omega),Nat.add_sub_cancel_left]at this
 rcases Nat.lt_or_ge q a.length with h1|h1
 ·rw[List.getElem?_append_left h1];exact h.1 q h1
 rw[List.getElem?_append_right h1];exact h.2 _ (by omega)
theorem OO{a b c d:List Int}{n m p q:Nat}(g:a.length=n)(hb:b.length=m)(hc:c.length=p)(hd:d.length=q):(∀j:Nat,j<n+m+p+q→(a++b++c++d)[j]?.getD 0=1) ↔
  (((∀j:Nat,j<n→a[j]?.getD 0=1)/\∀j:Nat,j<m→b[j]?.getD 0=1)/\∀j:Nat,j<p→c[j]?.getD 0=1)/\∀j:Nat,j<q→d[j]?.getD 0=1:=by
 have h1:(a++b).length=n+m:=by rw[List.length_append,g,hb]
 have h2:(a++b++c).length=n+m+p:=by rw[List.length_append,h1,hc]
 rw[Ll h2 hd,Ll h1 hc,Ll g hb]
theorem Fq(l:aU)(SA LA OA:Oh)(sn sc ln lc on oc:Nat)(bs:List Blk)(BA:Oh)(bn bc:Nat)(w:World)(h:fA w l SA LA OA sn sc ln lc on oc)(hB:RdC w w.heap.size (aa bs) (.slice BA bn bc))(au:uE l bs) :
  Calls Tryz.prog 35 #[ig l SA LA OA sn sc ln lc on oc,.slice BA bn bc] w fun e w'=>e=.returned (.bool true)/\Below w.heap.size w w':=by
 have K:=Hd au;have cj:=Hd (aB (Below.refl w.heap.size w) (.cells (bX l SA LA OA sn sc ln lc on oc) 41));have cb:=Hd (aG w (.cells (bX l SA LA OA sn sc ln lc on oc) 41));have bt:=hB.blkN;obtain⟨cg,HB,HN⟩:=hd3 bt hB h;obtain⟨bJ,bN,bK⟩:=h.lens;obtain⟨bC,ce,b3⟩:=hd3 bJ bN bK;have hf:=au.net;have dp:bn<=64:=by rw[←bt];exact au.len
 have dn:decide ((64:Int)<(bn:Int))=false:=decide_eq_false (by omega);have cV:decide ((bn:Int)>64)=false:=decide_eq_false (by omega);have cR:=hf.nseq;have cC:=hf.nlut;have cD:=hf.nout;have dq:=hf.inp;rw[bJ]at cR;rw[bN]at cC;rw[bK]at cD;have HF:=Hd hf;obtain⟨I,hI⟩:∃I:Nat,l.inputs=(I:Int):=⟨l.inputs.toNat,by omega⟩;have cq:Hv (l.inputs.toNat=I):=Hd<|by show _=_;omega
 have bG:=Hd hI;have dh:I<=20:=by omega
 obtain⟨i0,hi,bW,cf,b5⟩:=info_parts iE;have mk:=fun(n:Nat) (hn:n<=1048576) W=>dQ (P:=Tryz.prog) 26 3 i0 _ Tryz.underlying26 hi bW .i64 .i64 n n (Nat.le_refl _) (by rw[b5];omega) (by omega) W;rw[cf]at mk;simp only[Nat.mul_one,show(Value.int .i64 0).cells=#[Value.int .i64 0] from rfl,kM]at mk;have b9:=mk I (by omega);have cI:=mk on (by omega);have cH:=mk sn (by omega);have mkL:=mk ln (by omega);rw[←hI]at b9;clear mk hi bW cf b5 bJ bN bK hI bt h hB au;go_enter Tryz.func35,Tryz.ntmps35;go_upto_region 1 with fail;generalize w.alloc (.cells (bX l SA LA OA sn sc ln lc on oc) 41)=W0 at *;obtain⟨x0,x1,x2,x3,lx⟩:=bA cb.1;go_wp2_with fail;refine(kI l SA LA OA sn sc ln lc on oc _ (HN.1.below cj.1)).mono ?_;rw[bZ hf];rintro _ w1 ⟨rfl,b1⟩;have al:=Hd (aA cj.1 b1);have aZ:=Hd (aF b1 cb.1);clear b1 x0 x1 x2 x3 lx hf;obtain⟨x0,x1,x2,x3,lx⟩:=bA aZ.1;obtain⟨z,rfl⟩:∃x,x=w1:=⟨w1,rfl⟩;have ca:=Hd (aD.refl z);go_upto_region 4 with fail;have R:=JE ca.1 I (by omega);clear x0 x1 x2 x3 lx;generalize z.alloc (.cells (arr (List.replicate I 0)) 3)=m1 at R ⊢;generalize z.heap.size=g1 at R ⊢;have bp:=Hd R;clear R b9;obtain⟨x0,x1,x2,x3,lx⟩:=bA (aF bp.1.bel aZ.1);go_upto_region 5 with fail;have R:=JE bp.1 on (by omega);clear x0 x1 x2 x3 lx;generalize m1.alloc (.cells (arr (List.replicate on 0)) 3)=m2 at R ⊢;generalize m1.heap.size=g2 at R ⊢;have bE:=Hd R;clear R cI;obtain⟨x0,x1,x2,x3,lx⟩:=bA (aF bE.1.bel aZ.1);go_upto_region 6 with fail;have R:=JE bE.1 sn (by omega);clear x0 x1 x2 x3 lx;generalize m2.alloc (.cells (arr (List.replicate sn 0)) 3)=m3 at R ⊢;generalize m2.heap.size=Z at R ⊢;have H:=Hd R;clear R cH;obtain⟨x0,x1,x2,x3,lx⟩:=bA (aF H.1.bel aZ.1);go_upto_region 7 with fail;have R:=JE H.1 ln (by omega);clear x0 x1 x2 x3 lx;generalize m3.alloc (.cells (arr (List.replicate ln 0)) 3)=m4 at R ⊢;generalize m3.heap.size=g4 at R ⊢;have aE:=Hd R;clear R mkL;have cv:Hv (aD z m4 [.cel (aI (aK I (bH 0 []))) (.slice (some ⟨g1,0,none⟩) I I),.cel (aI (aK on (bH 1 []))) (.slice (some ⟨g2,0,none⟩) on on),.cel (aI (aK sn (gm []))) (.slice (some ⟨Z,0,none⟩) sn sn),.cel (aI (aK ln (jF []))) (.slice (some ⟨g4,0,none⟩) ln ln)]):=Hd<|aE.1
 clear ca bp bE H aE;go_wp2
 go_loopw[9] (fun i wr=>∃k:Nat,k<=bn/\i=.int .i64 (k:Int)/\aD z wr [.cel (aI (aK I (bH 0 (bs.take k)))) (.slice (some ⟨g1,0,none⟩) I I),.cel (aI (aK on (bH 1 (bs.take k)))) (.slice (some ⟨g2,0,none⟩) on on),.cel (aI (aK sn (gm (bs.take k)))) (.slice (some ⟨Z,0,none⟩) sn sn),.cel (aI (aK ln (jF (bs.take k)))) (.slice (some ⟨g4,0,none⟩) ln ln)]) (fun i _=>bn-(intOf i).toNat)
 ·exact⟨0,by omega,rfl,by rw[List.take_zero];exact cv.1⟩
 obtain⟨k,hk,rfl,hs⟩:=hrel;have HS:=Hd hs;clear hs;by_cases cF:k<bn
 ·have cA:=dT (by omega:k<bn);have a1:k<bs.length:=by rw[cg.1];exact cF
  obtain⟨bb,ob,EA,B,ec,cP,a6,c0,c1,c2,r2⟩:=HB.1.blk (k:=k) a1;have g:=aA al.1 HS.1.bel;have dt:=aJ g a6;rw[←g.cell (p:=⟨bb,ob+k*3,none⟩) a6]at c0;rw[←g.cell (p:=⟨bb,ob+k*3+1,none⟩) a6]at c1;rw[←g.cell (p:=⟨bb,ob+k*3+2,none⟩) a6]at c2;have ar:ja l (bs[k]?.getD Blk.zero):=K.1.fit _ (by rw[List.getElem?_eq_getElem a1];exact List.getElem_mem a1);have bO:∀b∈bs.take k,ja l b:=fun b hb=>K.1.fit b (List.mem_of_mem_take hb);have h1:=CK bO;have h2:=CL bO;have h3:=ru 0 (bs.take k);have h4:=ru 1 (bs.take k);rw[List.length_take]at h1 h2 h3 h4;have ai:Hv ((gm (bs.take k)).length<=192/\(jF (bs.take k)).length<=128/\(bH 0 (bs.take k)).length<=64/\(bH 1 (bs.take k)).length<=64):=Hd<|by show _/\_;omega
  have a8:=p8 0 (bs.take k) (bs[k]?.getD Blk.zero);have bk:=p8 1 (bs.take k) (bs[k]?.getD Blk.zero);have a9:=zB (bs.take k) (bs[k]?.getD Blk.zero);have bh:=zA (bs.take k) (bs[k]?.getD Blk.zero);rw[←oN a1]at a8 bk a9 bh;clear a1 h1 h2 h3 h4 bO;generalize bs[k]?.getD Blk.zero=b at *;obtain⟨kd,G,es⟩:=b;simp only at c0 c1 a8 bk a9 bh;obtain⟨ap,am,b7,b8⟩:=hd4 a8 bk a9 bh;have HE:=Hd (show RdC w w.heap.size (ay es) (.slice EA B ec) from r2);have br:Hv (es.length=B):=Hd<|HE.1.esN
  have a0:=Hd ar;have cs:=Hd (AA ar);have ch:Hv (B<=2):=Hd<|by show _<=_;rw[←br.1];exact tY ar
  have dE:=ch.1;clear r2 ar a8 bk a9 bh;subst cP;obtain⟨i0,i1⟩:=ib (by omega:k<bn);obtain⟨wo,rfl⟩:∃x,x=wr:=⟨wr,rfl⟩;have HA:=Hd (HS.1.pushBlk #[.int .i64 kd,.int .i64 G,.slice EA B ec] 89);have hx:=aF HA.1.bel aZ.1;obtain⟨x0,x1,x2,x3,lx⟩:=bA hx;obtain⟨y0,y1,y2,ly⟩:=j6 (HA.1.blk 4 rfl).1;clear hx g;go_wp2_with fail;refine(Da l SA LA OA sn sc ln lc on oc kd G es EA B ec _ (HN.1.below (aA al.1 HA.1.bel)) HF.1 (HE.1.below (aA al.1 HA.1.bel)) (by omega) a0.1).mono ?_;rintro _ w4 ⟨rfl,b4⟩;have H:=Hd (HA.1.below b4);clear x0 x1 x2 x3 lx y0 y1 y2 ly c0 c1 c2 b4;obtain⟨y0,y1,y2,ly⟩:=j6 (H.1.blk 4 rfl).1
  go_upto_block 2 with fail
  go_cut[] from 37 to 122 (fun w'=>aD z w' [.cel (aI (aK I (bH 0 (bs.take (k+1))))) (.slice (some ⟨g1,0,none⟩) I I),.cel (aI (aK on (bH 1 (bs.take (k+1))))) (.slice (some ⟨g2,0,none⟩) on on),.cel (aI (aK sn (gm (bs.take k)++(if kd=2 then[G]else[])))) (.slice (some ⟨Z,0,none⟩) sn sn),.cel (aI (aK ln (jF (bs.take k)))) (.slice (some ⟨g4,0,none⟩) ln ln),.blk wo.heap.size #[.int .i64 kd,.int .i64 G,.slice EA B ec] 89])
  case first =>
   rcases jm a0.1.1 with rfl|rfl|rfl|rfl
   ·have bd:=uU.1 a0.1.1;obtain⟨X,rfl⟩:∃X:Nat,G=(X:Int):=⟨G.toNat,by omega⟩;have hX:X<I:=by have:=bG.1;omega
    obtain⟨cX,fX,lX,D⟩:=mR H.1 0 rfl hX;have aN:=j5 (bH 0 (bs.take k)) (X:Int)
    have J:Hv (aD z (w4.setCell ⟨g1,X,none⟩ (.int .i64 (((cnt (bH 0 (bs.take k)) (X:Int):Nat):Int)+1))) [.cel (aI (aK I (bH 0 (bs.take (k+1))))) (.slice (some ⟨g1,0,none⟩) I I),.cel (aI (aK on (bH 1 (bs.take (k+1))))) (.slice (some ⟨g2,0,none⟩) on on),.cel (aI (aK sn (gm (bs.take k)++(if(0:Int)=2 then[(X:Int)]else[])))) (.slice (some ⟨Z,0,none⟩) sn sn),.cel (aI (aK ln (jF (bs.take k)))) (.slice (some ⟨g4,0,none⟩) ln ln),.blk wo.heap.size #[.int .i64 0,.int .i64 (X:Int),.slice EA B ec] 89]):=Hd<|by
     show aD z _ _;simp only[ap.1,am.1,Int.reduceEq,reduceIte,List.append_nil];exact D
    clear D;generalize cnt (bH 0 (bs.take k)) (X:Int)=q at *;have iq:q<=10000:=by have:=ai.1;omega
    have iX:(X:Int)<(I:Int):=by omega
    clear aN;go_wp2;go_meet;exact J.1
   ·have bd:=uV.1 a0.1.1;rw[b3.1]at bd;obtain⟨X,rfl⟩:∃X:Nat,G=(X:Int):=⟨G.toNat,by omega⟩;have hX:X<on:=by have:=bG.1;omega
    obtain⟨cX,fX,lX,D⟩:=mR H.1 1 rfl hX;have aN:=j5 (bH 1 (bs.take k)) (X:Int)
    have J:Hv (aD z (w4.setCell ⟨g2,X,none⟩ (.int .i64 (((cnt (bH 1 (bs.take k)) (X:Int):Nat):Int)+1))) [.cel (aI (aK I (bH 0 (bs.take (k+1))))) (.slice (some ⟨g1,0,none⟩) I I),.cel (aI (aK on (bH 1 (bs.take (k+1))))) (.slice (some ⟨g2,0,none⟩) on on),.cel (aI (aK sn (gm (bs.take k)++(if(1:Int)=2 then[(X:Int)]else[])))) (.slice (some ⟨Z,0,none⟩) sn sn),.cel (aI (aK ln (jF (bs.take k)))) (.slice (some ⟨g4,0,none⟩) ln ln),.blk wo.heap.size #[.int .i64 1,.int .i64 (X:Int),.slice EA B ec] 89]):=Hd<|by
     show aD z _ _;simp only[ap.1,am.1,Int.reduceEq,reduceIte,List.append_nil];exact D
    clear D;generalize cnt (bH 1 (bs.take k)) (X:Int)=q at *;have iq:q<=10000:=by have:=ai.1;omega
    have iX:(X:Int)<(on:Int):=by omega
    clear aN;go_wp2;go_meet;exact J.1
   ·have bd:=mq.1 a0.1.1;rw[bC.1]at bd;obtain⟨X,rfl⟩:∃X:Nat,G=(X:Int):=⟨G.toNat,by omega⟩;have hX:X<sn:=by have:=bG.1;omega
    obtain⟨cX,fX,lX,D⟩:=mR H.1 2 rfl hX;have aN:=j5 (gm (bs.take k)) (X:Int)
    have J:Hv (aD z (w4.setCell ⟨Z,X,none⟩ (.int .i64 (((cnt (gm (bs.take k)) (X:Int):Nat):Int)+1))) [.cel (aI (aK I (bH 0 (bs.take (k+1))))) (.slice (some ⟨g1,0,none⟩) I I),.cel (aI (aK on (bH 1 (bs.take (k+1))))) (.slice (some ⟨g2,0,none⟩) on on),.cel (aI (aK sn (gm (bs.take k)++(if(2:Int)=2 then[(X:Int)]else[])))) (.slice (some ⟨Z,0,none⟩) sn sn),.cel (aI (aK ln (jF (bs.take k)))) (.slice (some ⟨g4,0,none⟩) ln ln),.blk wo.heap.size #[.int .i64 2,.int .i64 (X:Int),.slice EA B ec] 89]):=Hd<|by
     show aD z _ _;simp only[ap.1,am.1,Int.reduceEq,reduceIte,List.append_nil];exact D
    clear D;generalize cnt (gm (bs.take k)) (X:Int)=q at *;have iq:q<=10000:=by have:=ai.1;omega
    have iX:(X:Int)<(sn:Int):=by omega
    clear aN;go_wp2;go_meet;exact J.1
   have J:Hv (aD z w4 [.cel (aI (aK I (bH 0 (bs.take (k+1))))) (.slice (some ⟨g1,0,none⟩) I I),.cel (aI (aK on (bH 1 (bs.take (k+1))))) (.slice (some ⟨g2,0,none⟩) on on),.cel (aI (aK sn (gm (bs.take k)++(if(3:Int)=2 then[G]else[])))) (.slice (some ⟨Z,0,none⟩) sn sn),.cel (aI (aK ln (jF (bs.take k)))) (.slice (some ⟨g4,0,none⟩) ln ln),.blk wo.heap.size #[.int .i64 3,.int .i64 G,.slice EA B ec] 89]):=Hd<|by
    show aD z _ _;simp only[ap.1,am.1,Int.reduceEq,reduceIte,List.append_nil];exact H.1
   go_wp2;go_meet;exact J.1
  have J:=Hd hcut;clear hcut y0 y1 y2 ly H HA HS;have bS:Hv ((gm (bs.take k)++(if kd=2 then[G]else[])).length<=1000):=Hd<|by show _<=_;have:=ai.1;rw[List.length_append];split <;> simp <;> omega
  have bR:Hv ((jF (bs.take k)).length<=1000):=Hd<|by show _<=_;have:=ai.1;omega
  obtain⟨XB,bI⟩:∃XB,bH 0 (bs.take (k+1))=XB:=⟨_,rfl⟩;obtain⟨YB,bL⟩:∃YB,bH 1 (bs.take (k+1))=YB:=⟨_,rfl⟩;obtain⟨SB,bB⟩:∃SB,gm (bs.take k)++(if kd=2 then[G]else[])=SB:=⟨_,rfl⟩;obtain⟨LB,bw⟩:∃LB,jF (bs.take k)=LB:=⟨_,rfl⟩;rw[bI,bL,bB,bw]at J;rw[bB]at b7 bS;rw[bw]at b8 bR;clear ap am;obtain⟨ap,am⟩:=hd2 bI bL;clear bI bL bB bw;go_upto_region 20 with fail;go_wp2
  go_loopw[11] (fun i wr=>∃j:Nat,j<=B/\i=.int .i64 (j:Int)/\aD z wr [.cel (aI (aK I (XB))) (.slice (some ⟨g1,0,none⟩) I I),.cel (aI (aK on (YB))) (.slice (some ⟨g2,0,none⟩) on on),.cel (aI (aK sn (SB++jo (es.take j)))) (.slice (some ⟨Z,0,none⟩) sn sn),.cel (aI (aK ln (LB++iI (es.take j)))) (.slice (some ⟨g4,0,none⟩) ln ln),.blk wo.heap.size #[.int .i64 kd,.int .i64 G,.slice EA B ec] 89]) (fun i _=>B-(intOf i).toNat)
  ·exact⟨0,by omega,rfl,by rw[List.take_zero];simpa [jo,iI]using J.1⟩
  obtain⟨j,hj,rfl,hs⟩:=hrel;have az:=Hd hs;clear hs;obtain⟨-,-,y2,ly⟩:=j6 (az.1.blk 4 rfl).1;by_cases bU:j<B
  ·have cJ:=dT (by omega:j<B);have aT:j<es.length:=by rw[br.1];exact bU
   obtain⟨be,oe,ck,ad,c0,c1⟩:=HE.1.es (k:=j) aT;have cE:=Hd ck;have a7:=cs.1 _ (List.getElem_mem aT);have u:=BO (es.take j) (es[j]?.getD LeT.zero);have af:=y9 (es.take j) (es[j]?.getD LeT.zero);rw[←bF aT]at u af;have aO:=z8 (es.take j);have aP:=xS (es.take j);rw[List.length_take]at aO aP;rw[show es[j]=es[j]?.getD LeT.zero by rw[List.getElem?_eq_getElem aT];rfl]at a7;have aw:=a7.lut.2;have ax:=a7.ff.2;rw[ce.1]at aw;rw[bC.1]at ax;have aq:=ch.1;have bg:=bS.1;have bj:=bR.1;clear a7 aT ck;generalize es[j]?.getD LeT.zero=e at *;obtain⟨a,b⟩:=e;simp only at aw ax u af c0 c1;obtain⟨i0,i1⟩:=ib (by omega:j<B);have aW:=j5 (SB++jo (es.take j)) b;have aQ:=j5 (LB++iI (es.take j)) a;rw[List.length_append]at aW aQ;obtain⟨b2,bV⟩:=hd2 c0 c1;have g:=aA al.1 az.1.bel;have bf:=aJ g ad;rw[←g.cell (p:=⟨be,oe+j*2,none⟩) ad]at c0;rw[←g.cell (p:=⟨be,oe+j*2+1,none⟩) ad]at c1;clear g;obtain rfl:=cE.1;by_cases ha:0<=a
   ·have da:decide (a≥0)=true:=decide_eq_true ha;rw[if_pos ha]at af;obtain⟨V,rfl⟩:=Int.eq_ofNat_of_zero_le ha;have cN:V<ln:=by omega
    obtain⟨cX,fX,lX,D⟩:=mR az.1 3 rfl cN
    have Q:Hv (aD z (wr.setCell ⟨g4,V,none⟩ (.int .i64 (((cnt (LB++iI (es.take j)) (V:Int):Nat):Int)+1))) [.cel (aI (aK I (XB))) (.slice (some ⟨g1,0,none⟩) I I),.cel (aI (aK on (YB))) (.slice (some ⟨g2,0,none⟩) on on),.cel (aI (aK sn (SB++jo (es.take j)))) (.slice (some ⟨Z,0,none⟩) sn sn),.cel (aI (aK ln (LB++iI (es.take (j+1))))) (.slice (some ⟨g4,0,none⟩) ln ln),.blk wo.heap.size #[.int .i64 kd,.int .i64 G,.slice (some ⟨be,oe,none⟩) B ec] 89]):=Hd<|by
     show aD z _ _;rw[af,←List.append_assoc];exact D
    clear D af;generalize cnt (LB++iI (es.take j)) (V:Int)=cc at *;have iX:(V:Int)<(ln:Int):=by omega
    have dB:cc<=10000:=by omega
    go_upto_region 25 with fail;clear c0 c1 y2 ly bf cX fX lX;generalize wr.setCell ⟨g4,V,none⟩ (.int .i64 ((cc:Int)+1))=W1 at *;have g:=aA al.1 Q.1.bel;have bf:=aJ g ad;have c0:=(g.cell (p:=⟨be,oe+j*2,none⟩) ad).trans b2.1;have c1:=(g.cell (p:=⟨be,oe+j*2+1,none⟩) ad).trans bV.1;obtain⟨-,-,y2,ly⟩:=j6 (Q.1.blk 4 rfl).1;clear g;by_cases hb:0<=b
    ·have db:decide (b≥0)=true:=decide_eq_true hb;rw[if_pos hb]at u;obtain⟨Y,rfl⟩:=Int.eq_ofNat_of_zero_le hb;have bv:Y<sn:=by omega
     obtain⟨cY,fY,lY,aS⟩:=mR Q.1 2 rfl bv
     have ak:Hv (aD z (W1.setCell ⟨Z,Y,none⟩ (.int .i64 (((cnt (SB++jo (es.take j)) (Y:Int):Nat):Int)+1))) [.cel (aI (aK I (XB))) (.slice (some ⟨g1,0,none⟩) I I),.cel (aI (aK on (YB))) (.slice (some ⟨g2,0,none⟩) on on),.cel (aI (aK sn (SB++jo (es.take (j+1))))) (.slice (some ⟨Z,0,none⟩) sn sn),.cel (aI (aK ln (LB++iI (es.take (j+1))))) (.slice (some ⟨g4,0,none⟩) ln ln),.blk wo.heap.size #[.int .i64 kd,.int .i64 G,.slice (some ⟨be,oe,none⟩) B ec] 89]):=Hd<|by
      show aD z _ _;rw[u,←List.append_assoc];exact aS
     clear aS u;generalize cnt (SB++jo (es.take j)) (Y:Int)=bM at *;have iY:(Y:Int)<(sn:Int):=by omega
     have cw:bM<=10000:=by omega
     clear aW aQ aO aP aq bg bj aw ax;go_wp2;go_roundw
     ·exact⟨j+1,by omega,by go_num,ak.1⟩
     simp[intOf];omega
    have db:decide (b≥0)=false:=decide_eq_false hb;rw[if_neg hb,List.append_nil]at u
    have ak:Hv (aD z W1 [.cel (aI (aK I (XB))) (.slice (some ⟨g1,0,none⟩) I I),.cel (aI (aK on (YB))) (.slice (some ⟨g2,0,none⟩) on on),.cel (aI (aK sn (SB++jo (es.take (j+1))))) (.slice (some ⟨Z,0,none⟩) sn sn),.cel (aI (aK ln (LB++iI (es.take (j+1))))) (.slice (some ⟨g4,0,none⟩) ln ln),.blk wo.heap.size #[.int .i64 kd,.int .i64 G,.slice (some ⟨be,oe,none⟩) B ec] 89]):=Hd<|by
     show aD z _ _;rw[u];exact Q.1
    clear u aW aQ aO aP aq bg bj aw ax;go_wp2;go_roundw
    ·exact⟨j+1,by omega,by go_num,ak.1⟩
    simp[intOf];omega
   have da:decide (a≥0)=false:=decide_eq_false ha;rw[if_neg ha,List.append_nil]at af
   have Q:Hv (aD z wr [.cel (aI (aK I (XB))) (.slice (some ⟨g1,0,none⟩) I I),.cel (aI (aK on (YB))) (.slice (some ⟨g2,0,none⟩) on on),.cel (aI (aK sn (SB++jo (es.take j)))) (.slice (some ⟨Z,0,none⟩) sn sn),.cel (aI (aK ln (LB++iI (es.take (j+1))))) (.slice (some ⟨g4,0,none⟩) ln ln),.blk wo.heap.size #[.int .i64 kd,.int .i64 G,.slice (some ⟨be,oe,none⟩) B ec] 89]):=Hd<|by
    show aD z _ _;rw[af];exact az.1
   clear af;go_upto_region 25 with fail;clear c0 c1 y2 ly bf;have g:=aA al.1 Q.1.bel;have bf:=aJ g ad;have c0:=(g.cell (p:=⟨be,oe+j*2,none⟩) ad).trans b2.1;have c1:=(g.cell (p:=⟨be,oe+j*2+1,none⟩) ad).trans bV.1;obtain⟨-,-,y2,ly⟩:=j6 (Q.1.blk 4 rfl).1;clear g;by_cases hb:0<=b
   ·have db:decide (b≥0)=true:=decide_eq_true hb;rw[if_pos hb]at u;obtain⟨Y,rfl⟩:=Int.eq_ofNat_of_zero_le hb;have bv:Y<sn:=by omega
    obtain⟨cY,fY,lY,aS⟩:=mR Q.1 2 rfl bv
    have ak:Hv (aD z (wr.setCell ⟨Z,Y,none⟩ (.int .i64 (((cnt (SB++jo (es.take j)) (Y:Int):Nat):Int)+1))) [.cel (aI (aK I (XB))) (.slice (some ⟨g1,0,none⟩) I I),.cel (aI (aK on (YB))) (.slice (some ⟨g2,0,none⟩) on on),.cel (aI (aK sn (SB++jo (es.take (j+1))))) (.slice (some ⟨Z,0,none⟩) sn sn),.cel (aI (aK ln (LB++iI (es.take (j+1))))) (.slice (some ⟨g4,0,none⟩) ln ln),.blk wo.heap.size #[.int .i64 kd,.int .i64 G,.slice (some ⟨be,oe,none⟩) B ec] 89]):=Hd<|by
     show aD z _ _;rw[u,←List.append_assoc];exact aS
    clear aS u;generalize cnt (SB++jo (es.take j)) (Y:Int)=bM at *;have iY:(Y:Int)<(sn:Int):=by omega
    have cw:bM<=10000:=by omega
    clear aW aQ aO aP aq bg bj aw ax;go_wp2;go_roundw
    ·exact⟨j+1,by omega,by go_num,ak.1⟩
    simp[intOf];omega
   have db:decide (b≥0)=false:=decide_eq_false hb;rw[if_neg hb,List.append_nil]at u
   have ak:Hv (aD z wr [.cel (aI (aK I (XB))) (.slice (some ⟨g1,0,none⟩) I I),.cel (aI (aK on (YB))) (.slice (some ⟨g2,0,none⟩) on on),.cel (aI (aK sn (SB++jo (es.take (j+1))))) (.slice (some ⟨Z,0,none⟩) sn sn),.cel (aI (aK ln (LB++iI (es.take (j+1))))) (.slice (some ⟨g4,0,none⟩) ln ln),.blk wo.heap.size #[.int .i64 kd,.int .i64 G,.slice (some ⟨be,oe,none⟩) B ec] 89]):=Hd<|by
    show aD z _ _;rw[u];exact Q.1
   clear u aW aQ aO aP aq bg bj aw ax;go_wp2;go_roundw
   ·exact⟨j+1,by omega,by go_num,ak.1⟩
   simp[intOf];omega
  have ci:j=B:=by omega
  have cJ:=dF (by omega:B<=j)
  have HD:Hv (aD z wr [.cel (aI (aK I (XB))) (.slice (some ⟨g1,0,none⟩) I I),.cel (aI (aK on (YB))) (.slice (some ⟨g2,0,none⟩) on on),.cel (aI (aK sn (SB++jo es))) (.slice (some ⟨Z,0,none⟩) sn sn),.cel (aI (aK ln (LB++iI es))) (.slice (some ⟨g4,0,none⟩) ln ln),.blk wo.heap.size #[.int .i64 kd,.int .i64 G,.slice EA B ec] 89]):=Hd<|by
   have h:=az.1;show aD z _ _;rwa[ci,List.take_of_length_le (by rw[br.1];exact Nat.le_refl _)]at h
  clear az ci;go_wp2;go_roundw
  ·exact⟨k+1,by omega,by go_num,by rw[ap.1,am.1,b7.1,b8.1];exact HD.1.sub (List.sublist_append_left _ [_])⟩
  simp[intOf];omega
 have bY:k=bn:=by omega
 have cA:=dF (by omega:bn<=k);have cM:Hv (bs.take k=bs):=Hd<|by show _=_;rw[bY];exact List.take_of_length_le (by rw[cg.1];exact Nat.le_refl _)
 rw[cM.1]at HS;have h1:=mr.2 K.1.ins;rw[cq.1]at h1;have h2:=mr.2 K.1.outs;rw[b3.1]at h2;have h3:=mr.2 K.1.seqs;rw[bC.1]at h3;have h4:=mr.2 K.1.luts;rw[ce.1]at h4;have HU:=Hd ((OO (mf ..) (mf ..) (mf ..) (mf ..)).2 ⟨⟨⟨h1,h2⟩,h3⟩,h4⟩);clear h1 h2 h3 h4 bY
 go_wp2_with (at_builtin;first
  | (refine eX rfl _ _ rfl _ bD.1 0 A6 (I+on+sn) c6 _ (some ⟨g4,0,none⟩) ln ln _ rfl rfl rfl (bD.1.ints 3 rfl) (by omega) ?_;intro A7 c7 w7 S7 _;have bq:=Hd S7;clear S7)
  | (refine eX rfl _ _ rfl _ aE.1 0 A5 (I+on) c5 _ (some ⟨Z,0,none⟩) sn sn _ rfl rfl rfl (aE.1.ints 2 rfl) (by omega) ?_;intro A6 c6 w6 S6 _;have bD:=Hd S6;clear S6)
  | (refine eX rfl _ _ rfl _ HS.1 0 (some ⟨g1,0,none⟩) I I _ (some ⟨g2,0,none⟩) on on _ rfl rfl rfl (HS.1.ints 1 rfl) (by omega) ?_;intro A5 c5 w5 S5 _;have aE:=Hd S5;clear S5))
 have HO:=Hd (bq.1.ints 0 rfl);have cB:=Hd (aA al.1 bq.1.bel);clear HS aE bD bq;generalize hM:I+on+sn+ln=M at *;have di:M<=1099511627776:=by omega
 generalize cK:aK I (bH 0 bs)++aK on (bH 1 bs)++aK sn (gm bs)++aK ln (jF bs)=U at *;clear cK hM
 go_loopw[13] (fun i wr=>∃q:Nat,q<=M/\i=.int .i64 (q:Int)/\w7=wr) (fun i _=>M-(intOf i).toNat)
 ·exact⟨0,by omega,rfl,rfl⟩
 obtain⟨q,hq,rfl,rfl⟩:=hrel;by_cases bl:q<M
 ·have cy:=dT (by omega:q<M);obtain⟨bu,ou,cd,dk,bT⟩:=HO.1.2 (by omega);have cu:=bT q bl;rw[HU.1 q bl]at cu;have cT:=Hd cd;clear bT cd;obtain rfl:=cT.1;obtain⟨i0,i1⟩:=ib (by omega:q<M);go_wp2;go_roundw
  ·exact⟨q+1,by omega,by go_num,by first|rfl|trivial⟩
  simp[intOf];omega
 have cy:=dF (by omega:M<=q);go_wp2;go_ret;exact⟨rfl,cB.1⟩
theorem Db(l:aU)(SA LA OA:Oh)(sn sc ln lc on oc:Nat)(bs:List Blk)(BA:Oh)(bn bc:Nat)(w:World)(h:fA w l SA LA OA sn sc ln lc on oc)(hB:RdC w w.heap.size (aa bs) (.slice BA bn bc))(hp:uE l bs) :
  Calls Tryz.prog 37 #[ig l SA LA OA sn sc ln lc on oc,.slice BA bn bc] w fun e w'=>∃A n c,e=.returned (.slice A n c)/\iM w.heap.size w'.heap.size w' (bL (kR l bs)) (.slice A n c)/\Below w.heap.size w w':=by
 have z:=Hd (aB (Below.refl w.heap.size w) (.cells (bX l SA LA OA sn sc ln lc on oc) 41));have D:=Hd (aG w (.cells (bX l SA LA OA sn sc ln lc on oc) 41));have a4:=hB.blkN;obtain⟨ag,HB,HN,HP,HF,aQ⟩:=hd6 a4 hB h hp hp.net hp.fit;have bU:=hp.len;rw[a4]at bU;have dj:Hv (∀i,i<=bn→(kX l bs i).length<=2*i):=Hd<|fun i hi=>qL aQ.1 (by rw[ag.1];exact hi)
 clear hB a4 h hp;obtain⟨cr,bK,bx,bQ,bY⟩:=info_parts qm;obtain⟨cP,b0,bE,b4,b6⟩:=info_parts tZ;obtain⟨cN,b3,bT,bZ,bD⟩:=info_parts CO;have aO:=Hd (And.intro bK (And.intro bx (And.intro bQ bY)));have aP:=Hd (And.intro b0 (And.intro bE (And.intro b4 b6)));have az:=Hd (And.intro b3 (And.intro bT (And.intro bZ bD)));clear bK bx bQ bY b0 bE b4 b6 b3 bT bZ bD;go_enter Tryz.func37,Tryz.ntmps37;go_upto_region 1 with fail;generalize w.alloc (.cells (bX l SA LA OA sn sc ln lc on oc) 41)=Y at *;have bj:=Hd ((aD.refl Y).pushNew 158 4);obtain⟨x0,x1,x2,x3,lx⟩:=bA D.1;go_wp2_with fail;refine(Fq l SA LA OA sn sc ln lc on oc bs BA bn bc _ (HN.1.below (aA z.1 bj.1.bel)) (HB.1.below (aA z.1 bj.1.bel)) HP.1).mono ?_;rintro _ w1 ⟨rfl,b1⟩;have cx:=Hd (bj.1.below b1);have cj:=Hd (cx.1.pushNew 26 1);clear b1 x0 x1 x2 x3 lx;go_wp2
 go_loopw[6,7] (fun v i wr=>∃(k:Nat) (A:Oh) (c:Nat),k<=bn/\i=.int .i64 (k:Int)/\v=.slice A k c/\aD Y wr [.cel (bL []) (.slice (some ⟨Y.heap.size,0,none⟩) 0 0),.cel (mG ((bs.take k).map (iU l))) (.slice A k c)]) (fun _ i _=>bn-(intOf i).toNat)
 ·exact⟨0,_,_,by omega,rfl,rfl,cj.1⟩
 obtain⟨k,A1,cA,hk,rfl,rfl,hs⟩:=hrel;have W:=Hd hs;clear hs;by_cases bd:k<bn
 ·have a8:=dT (by omega:k<bn);have J:k<bs.length:=by rw[ag.1];exact bd
  obtain⟨U,R,EA,en,ec,av,Q,c0,c1,c2,r2⟩:=HB.1.blk (k:=k) J;have a1:=Hd av;have G:=aQ.1 _ (List.getElem_mem J);rw[show bs[k]=bs[k]?.getD Blk.zero by rw[List.getElem?_eq_getElem J];rfl]at G;have H:=Hd (show(bs.take (k+1)).map (iU l)=(bs.take k).map (iU l)++[iU l (bs[k]?.getD Blk.zero)] from by rw[oN J,List.map_append];rfl);clear J av;generalize bs[k]?.getD Blk.zero=b at *;obtain⟨kd,it,es⟩:=b;simp only at c0 c1;have HE:=Hd (show RdC w w.heap.size (ay es) (.slice EA en ec) from r2);have am:es.length=en:=HE.1.esN;have cW:en<=2:=by rw[←am];exact tY G
  have bf:=Hd G.1;obtain rfl:=a1.1;obtain⟨i0,i1⟩:=ib (by omega:k<bn);have B:Hv (∀w',Below Y.heap.size Y w'→(K4 w' w.heap.size (.int .i64 l.inputs) (.slice SA sn sc) (.slice LA ln lc) (.slice OA on oc) (w'.cell? ⟨U,R+k*3,none⟩=some (.int .i64 kd)/\w'.cell? ⟨U,R+k*3+1,none⟩=some (.int .i64 it)/\w'.cell? ⟨U,R+k*3+2,none⟩=some (.slice EA en ec)))):=Hd<|fun v I=>⟨aC (k:=0) (aF I D.1) rfl,aC (k:=1) (aF I D.1) rfl,aC (k:=2) (aF I D.1) rfl,aC (k:=3) (aF I D.1) rfl,((aA z.1 I).cell (p:=⟨U,R+k*3,none⟩) Q).trans c0,((aA z.1 I).cell (p:=⟨U,R+k*3+1,none⟩) Q).trans c1,((aA z.1 I).cell (p:=⟨U,R+k*3+2,none⟩) Q).trans c2⟩
  clear r2 am G c0 c1 c2;obtain⟨x0,x1,x2,x3,c0,c1,c2⟩:=B.1 _ W.1.bel;have lx:=aH (aF W.1.bel D.1);have bO:=aJ (aA z.1 W.1.bel) Q;have hS:=Hd W.1.drew;have V:=hS.1.bel;have a9:=Hd (fun(v:World) (I:Below Y.heap.size Y v)=>BF l SA LA OA sn sc ln lc on oc kd it es EA en ec v (HN.1.below (aA z.1 I)) HF.1 (HE.1.below (aA z.1 I)) bf.1 (by omega));go_upto_region 8 with fail
  go_region_held3 (fun w'=>K4 w' w.heap.size (.int .i64 l.inputs) (.slice SA sn sc) (.slice LA ln lc) (.slice OA on oc) (w'.cell? ⟨U,R+k*3,none⟩=some (.int .i64 kd)/\w'.cell? ⟨U,R+k*3+1,none⟩=some (.int .i64 it)/\w'.cell? ⟨U,R+k*3+2,none⟩=some (.slice EA en ec)))
   (first|with_reducible exact B.1 _ V|with_reducible exact B.1 _ (aB V _))
   ((first
    | (go_at_call 111;(with_reducible refine(a9.1 _ V).mono ?_);rintro e5 w5 ⟨PA,pn,pc,rfl,op,b5⟩;replace V:=aA V b5;have cy:=Hd (ry hS.1 b5 op);clear b5 op)
    | (refine iL rfl _ _ 50 26 (by rfl) cr _ 1 24 Tryz.underlying50 aO.1.1 aO.1.2.1 aO.1.2.2.1 aO.1.2.2.2 rfl (by decide) (by decide) _ (cy.1.alloc (.cells #[.slice PA pn pc] 26)) 2 0 (by decide) k cA _ A1 (((bs.take k).map (iU l)).map aI) _ #[.slice PA pn pc] _ rfl rfl (by rfl) (by rfl) (aG _ _) rfl (by omega) ?_;intro g9 cap w9 S9 ap;have cm:=Hd S9.tail;replace V:=S9.tail.bel;clear S9 ap)))
  go_wp2;go_roundw
  ·exact⟨k+1,_,_,by omega,by go_num,rfl,by rw[H.1,uO];exact cm.1⟩
  simp[intOf];omega
 have ax:k=bn:=by omega
 have a8:=dF (by omega:bn<=k);have H:Hv (bs.take k=bs):=Hd<|by show _=_;rw[ax];exact List.take_of_length_le (by rw[ag.1];exact Nat.le_refl _)
 rw[H.1]at W;obtain⟨u,ak⟩:∃u,bs.map (iU l)=u:=⟨_,rfl⟩;rw[ak]at W;have cn:=Hd ak;have bF:Hv (u.length=bn):=Hd<|by show _=_;rw[←ak,List.length_map,ag.1]
 have ck:Hv (∀ps∈u,ps.length<=5):=Hd<|fun ps hp=>by
  rw[←ak]at hp;obtain⟨b,hb,rfl⟩:=List.mem_map.1 hp;exact yz HF.1 (aQ.1 b hb)
 subst ax;clear ak H;have cw:=W;clear W;obtain⟨PA,rfl⟩:∃y,y=A1:=⟨A1,rfl⟩;obtain⟨pc,rfl⟩:∃y,y=cA:=⟨cA,rfl⟩;obtain⟨bn,rfl⟩:∃y,y=k:=⟨k,rfl⟩;go_wp2
 go_loopw[5,8] (fun v i wr=>∃(k:Nat) (A:Oh) (n c:Nat),k<=bn/\i=.int .i64 (k:Int)/\v=.slice A n c/\n<=2*k/\aD Y wr [.cel (bL (kX l bs k)) (.slice A n c),.cel (mG u) (.slice PA bn pc)]) (fun _ i _=>bn-(intOf i).toNat)
 ·exact⟨0,_,0,_,by omega,rfl,rfl,by omega,cw.1⟩
 obtain⟨k,A1,n1,cA,hk,rfl,rfl,dg,hs⟩:=hrel;have W:=Hd hs;clear hs;by_cases bd:k<bn
 ·have a8:=dT (by omega:k<bn);have J:k<bs.length:=by rw[ag.1];exact bd
  obtain⟨U,R,EA,en,ec,av,Q,c0,c1,c2,r2⟩:=HB.1.blk (k:=k) J;have a1:=Hd av;have G:=aQ.1 _ (List.getElem_mem J);rw[show bs[k]=bs[k]?.getD Blk.zero by rw[List.getElem?_eq_getElem J];rfl]at G;have aW:=y8 G;have H:=Hd (sU l bs k);rw[cn.1]at H;clear J av;generalize bs[k]?.getD Blk.zero=b at *;obtain⟨kd,it,es⟩:=b;simp only at c0 c1;have HE:=Hd (show RdC w w.heap.size (ay es) (.slice EA en ec) from r2);have am:es.length=en:=HE.1.esN;have cW:en<=2:=by rw[←am];exact tY G
  have bf:=Hd G.1;obtain rfl:=a1.1;obtain⟨i0,i1⟩:=ib (by omega:k<bn);have B:Hv (∀w',Below Y.heap.size Y w'→(K4 w' w.heap.size (.int .i64 l.inputs) (.slice SA sn sc) (.slice LA ln lc) (.slice OA on oc) (w'.cell? ⟨U,R+k*3,none⟩=some (.int .i64 kd)/\w'.cell? ⟨U,R+k*3+1,none⟩=some (.int .i64 it)/\w'.cell? ⟨U,R+k*3+2,none⟩=some (.slice EA en ec)))):=Hd<|fun v I=>⟨aC (k:=0) (aF I D.1) rfl,aC (k:=1) (aF I D.1) rfl,aC (k:=2) (aF I D.1) rfl,aC (k:=3) (aF I D.1) rfl,((aA z.1 I).cell (p:=⟨U,R+k*3,none⟩) Q).trans c0,((aA z.1 I).cell (p:=⟨U,R+k*3+1,none⟩) Q).trans c1,((aA z.1 I).cell (p:=⟨U,R+k*3+2,none⟩) Q).trans c2⟩
  clear r2 am G c0 c1 c2;obtain⟨x0,x1,x2,x3,c0,c1,c2⟩:=B.1 _ W.1.bel;have lx:=aH (aF W.1.bel D.1);have bO:=aJ (aA z.1 W.1.bel) Q;have hS:=Hd W.1.drew;have V:=hS.1.bel;have a9:=Hd (fun(v:World) (I:Below Y.heap.size Y v)=>BD l SA LA OA sn sc ln lc on oc kd it es EA en ec v (HN.1.below (aA z.1 I)) HF.1 (HE.1.below (aA z.1 I)) bf.1 (by omega));go_upto_region 12 with fail
  go_region_held3 (fun w'=>K4 w' w.heap.size (.int .i64 l.inputs) (.slice SA sn sc) (.slice LA ln lc) (.slice OA on oc) (w'.cell? ⟨U,R+k*3,none⟩=some (.int .i64 kd)/\w'.cell? ⟨U,R+k*3+1,none⟩=some (.int .i64 it)/\w'.cell? ⟨U,R+k*3+2,none⟩=some (.slice EA en ec)))
   (first|with_reducible exact B.1 _ V)
   ((first
    | (go_at_call 112;(with_reducible refine(a9.1 _ V).mono ?_);rintro e5 w5 ⟨UA,un,uc,rfl,ou,b5⟩;replace V:=aA V b5;have bV:=Hd ou.len;have bz:=Hd (hS.1.pushOwn b5 ou);clear b5 ou)))
  have ds:un<=2:=by rw[←bV.1];exact aW
  clear aW bV hS V B x0 x1 x2 x3 lx c0 c1 c2 bO;generalize j4 l ⟨kd,it,es⟩=Z at *;generalize kX l bs k=CT at *;have cz:=Hd (bz.1.ints 2 rfl).1;rw[cz.1]at H;go_wp2
  go_loopw[5,10] (fun v i wr=>∃(p:Nat) (A:Oh) (n c:Nat),p<=un/\i=.int .i64 (p:Int)/\v=.slice A n c/\n<=2*k+p/\aD Y wr [.cel (bL (CT++iV u k Z p)) (.slice A n c),.cel (mG u) (.slice PA bn pc),.cel (aI Z) (.slice UA un uc)]) (fun _ i _=>un-(intOf i).toNat)
  ·exact⟨0,_,_,_,by omega,rfl,rfl,by omega,by simpa [iV]using bz.1⟩
  obtain⟨p,A2,n2,cB,hp,rfl,rfl,cG,hs⟩:=hrel;have aM:=Hd hs;clear hs;by_cases aY:p<un
  ·have cs:=dT (by omega:p<un);obtain⟨bu,ou,bN,cS,al⟩:=(aM.1.ints 2 rfl).2 (by omega);have cI:=Hd bN;have cu:=al p aY;have bh:=Hd (vC u k Z p);obtain⟨N,hN⟩:∃N,Z[p]?.getD 0=N:=⟨_,rfl⟩;rw[hN]at cu bh;have co:=Hd hN;obtain rfl:=cI.1;clear al bN hN;obtain⟨i2,i3⟩:=ib (by omega:p<un);have bR:Hv (aD Y (wr.alloc (.cells #[.int .i64 N,.int .i64 (k:Int),.int .i64 (p:Int),.slice none 0 0] 158)) [.cel (bL (CT++iV u k Z p)) (.slice A2 n2 cB),.cel (mG u) (.slice PA bn pc),.cel (aI Z) (.slice (some ⟨bu,ou,none⟩) un uc),.blk wr.heap.size #[.int .i64 N,.int .i64 (k:Int),.int .i64 (p:Int),.slice none 0 0] 158,.cel (aZ (gQ u N 0)) (.slice none 0 0)]):=Hd<|((aM.1.pushBlk _ _).pushNil 100 2)
   obtain⟨gc,aE⟩:∃g,wr.heap.size=g:=⟨_,rfl⟩;go_upto_region 17 with fail;rw[aE]at bR
   (try rw[aE])
   have dp:=Hd aE;clear aE cu cS;generalize wr.alloc (.cells #[.int .i64 N,.int .i64 (k:Int),.int .i64 (p:Int),.slice none 0 0] 158)=W6 at *;go_wp2
   go_loopw[12] (fun i wr=>∃(j:Nat) (SK:Oh) (m c:Nat),j<=bn/\i=.int .i64 (j:Int)/\m<=5*j/\aD Y wr [.cel (bL (CT++iV u k Z p)) (.slice A2 n2 cB),.cel (mG u) (.slice PA bn pc),.cel (aI Z) (.slice (some ⟨bu,ou,none⟩) un uc),.blk gc #[.int .i64 N,.int .i64 (k:Int),.int .i64 (p:Int),.slice SK m c] 158,.cel (aZ (gQ u N j)) (.slice SK m c)]) (fun i _=>bn-(intOf i).toNat)
   ·exact⟨0,none,0,0,by omega,rfl,by omega,bR.1⟩
   obtain⟨j,SK,m,mc,hj,rfl,hm,hs⟩:=hrel;have ae:=Hd hs;clear hs;by_cases bw:j<bn
   ·have cL:=dT (by omega:j<bn);have aK:j<u.length:=by rw[bF.1];exact bw
    have h5:=ck.1 _ (List.getElem_mem aK);rw[show u[j]=u[j]?.getD [] by rw[List.getElem?_eq_getElem aK];rfl]at h5;have aT:=Hd (rF u N j);obtain⟨qs,a7⟩:∃qs,u[j]?.getD []=qs:=⟨_,rfl⟩;rw[a7]at aT h5;obtain⟨cK,cZ⟩:=hd2 a7 aK;clear aK a7;generalize gQ u N j=SJ at *;obtain⟨i4,i5⟩:=ib (by omega:j<bn);go_wp2
    go_loopw[13] (fun i wr=>∃(q:Nat) (SK:Oh) (m c:Nat),q<=qs.length/\i=.int .i64 (q:Int)/\m<=5*j+q/\aD Y wr [.cel (bL (CT++iV u k Z p)) (.slice A2 n2 cB),.cel (mG u) (.slice PA bn pc),.cel (aI Z) (.slice (some ⟨bu,ou,none⟩) un uc),.blk gc #[.int .i64 N,.int .i64 (k:Int),.int .i64 (p:Int),.slice SK m c] 158,.cel (aZ (SJ++nC N j qs q)) (.slice SK m c)]) (fun i _=>qs.length-(intOf i).toNat)
    ·exact⟨0,_,_,_,by omega,rfl,by omega,by simpa [nC]using ae.1⟩
    obtain⟨q,SK,m,mc,hq,rfl,hm,hs⟩:=hrel;have K:=Hd hs;clear hs;obtain⟨bp,op,PT,pm,pp,bP,bG,cp,rp⟩:=(K.1.rd 1 rfl).rowsR (k:=j) cZ.1;rw[cK.1]at rp;obtain⟨cJ,cH⟩:=hd2 bP rp.ints;have df:qs.length=pm:=rp.ints.1;clear rp bP;obtain rfl:=cJ.1;by_cases bH:q<pm
    ·have cC:=dT (by omega:q<pm);obtain⟨bq,oq,bv,bS,bB⟩:=cH.1.2 (by omega);have cT:=Hd bv;have cq:=bB q bH;obtain⟨b2,o2,bt,aV,al⟩:=(K.1.ints 2 rfl).2 (by omega)
     obtain⟨rfl,rfl⟩:bu=b2/\ou=o2:=by
      injection bt with h
      injection h with h1 h2
      exact⟨h1,h2⟩
     have cu:=al p aY;rw[co.1]at cu;have bI:=Hd (vB N j qs q);clear bB bv bt al;obtain rfl:=cT.1;generalize qs[q]?.getD 0=y at *;generalize nC N j qs q=SQ at *;obtain⟨i6,i7⟩:=ib (by omega:q<pm);by_cases hy:y=N
     ·have dy:(y==N)=true:=by simp[hy]
      have HC:Hv (SJ++nC N j qs (q+1)=SJ++SQ++[⟨(j:Int),(q:Int)⟩]):=Hd<|by show _=_;rw[bI.1,if_pos hy,List.append_assoc]
      clear hy;go_upto_region 23 with fail;have ao:=dB wr;have a3:=au wr;refine wpB wr ?_
      repeat(go_big_quiet_step (fail))
      refine wpQuiet_nil ?_;rintro wq ⟨⟨w5,V⟩,hw⟩;replace hw:wq=w5:=hw;subst hw;have ad:=Hd (K.1.below V);clear ao a3 V cp bG cq bS cu aV;have aq:=(ad.1.blk 3 rfl).1;obtain⟨-,-,-,z3,lz⟩:=bA aq;have cD:=Hd ((ad.1.consPin (j:Int) (q:Int)).alloc (.cells #[.int .i64 (j:Int),.int .i64 (q:Int)] 100));have dt:m<=1000:=by omega
      clear aq
      go_wp2_with (at_builtin;refine af rfl _ _ 156 100 rfl cP _ 2 16 Tryz.underlying156 aP.1.1 aP.1.2.1 aP.1.2.2.1 aP.1.2.2.2 rfl (by decide) (by decide) _ (cD.1) 5 0 (by decide) m mc _ SK ((SJ++SQ).flatMap aL.cells) _ #[.int .i64 (j:Int),.int .i64 (q:Int)] _ rfl rfl rfl rfl (aG _ _) rfl (by omega) ?_;intro g9 cap w9 S9 ap;have a5:=Hd (S9.tail.blk 3 rfl).1;have l9:=aC (k:=3) a5.1 rfl;have f9:=aN a5.1 3;have q9:=aH a5.1;have cE:=Hd (S9.tail.put 3 rfl 3 (.slice (some ⟨g9,0,none⟩) (m+1) cap));clear S9 ap)
      go_roundw
      ·exact⟨q+1,some ⟨g9,0,none⟩,m+1,cap,by omega,by go_num,by omega,by rw[HC.1];unfold aZ;rw[Ci];exact cE.1⟩
      simp[intOf];omega
     have dy:(y==N)=false:=by simp[hy]
     have HC:Hv (SJ++nC N j qs (q+1)=SJ++SQ):=Hd<|by show _=_;rw[bI.1,if_neg hy,List.append_nil]
     clear hy;go_upto_region 23 with fail;have ao:=dB wr;have a3:=au wr;refine wpB wr ?_
     repeat(go_big_quiet_step (fail))
     refine wpQuiet_nil ?_;rintro wq ⟨⟨w5,V⟩,hw⟩;replace hw:wq=w5:=hw;subst hw;have ad:=Hd (K.1.below V);clear ao a3 V cp bG cq bS cu aV;go_wp2;go_roundw
     ·exact⟨q+1,SK,m,mc,by omega,by go_num,by omega,by rw[HC.1];exact ad.1⟩
     simp[intOf];omega
    have b7:q=qs.length:=by omega
    have cC:=dF (by omega:pm<=q);rw[b7]at K hm;clear b7;go_wp2;go_roundw
    ·exact⟨j+1,SK,m,mc,by omega,by go_num,by omega,by rw[aT.1];exact K.1⟩
    simp[intOf];omega
   have cO:j=bn:=by omega
   have cL:=dF (by omega:bn<=j);have aT:Hv (gQ u N j=gQ u N u.length):=Hd<|by show _=_;rw[bF.1,cO]
   rw[aT.1]at ae;have aq:=(ae.1.blk 3 rfl).1;obtain⟨z0,z1,z2,z3,lz⟩:=bA aq;have cv:(gQ u N u.length).length=m:=(ae.1.rd 4 rfl).pinN;clear aq;by_cases de:m=0
   ·have dm:decide ((0:Int)<(m:Int))=false:=decide_eq_false (by omega);have cV:decide (0<m)=false:=decide_eq_false (by omega);have HC:Hv (iV u k Z (p+1)=iV u k Z p):=Hd<|by show _=_;rw[bh.1];unfold xm;rw[if_pos (by omega),List.append_nil]
    have ar:=Hd (ae.1.sub (qs:=[_,_,_]) (List.Sublist.cons_cons _ (List.Sublist.cons_cons _ (List.Sublist.cons_cons _ (List.nil_sublist _)))));go_wp2;go_roundw
    ·exact⟨p+1,_,_,_,by omega,by go_num,rfl,by omega,by rw[HC.1];exact ar.1⟩
    simp[intOf];omega
   have dm:decide ((0:Int)<(m:Int))=true:=decide_eq_true (by omega);have cV:decide (0<m)=true:=decide_eq_true (by omega);have HC:Hv (CT++iV u k Z (p+1)=CT++iV u k Z p++[⟨N,⟨(k:Int),(p:Int)⟩,gQ u N u.length⟩]):=Hd<|by show _=_;rw[bh.1];unfold xm;rw[if_neg (by omega),List.append_assoc]
   have ar:=Hd ((ae.1.connCels 4 N (k:Int) (p:Int) rfl).alloc (.cells #[.int .i64 N,.int .i64 (k:Int),.int .i64 (p:Int),.slice SK m mc] 158));have dr:n2<=1000:=by omega
   clear cv
   go_wp2_with (at_builtin;refine af rfl _ _ 43 158 rfl cN _ 4 48 Tryz.underlying43 az.1.1 az.1.2.1 az.1.2.2.1 az.1.2.2.2 rfl (by decide) (by decide) _ (ar.1) 0 4 (by decide) n2 cB _ A2 ((CT++iV u k Z p).flatMap Cn.cells) _ #[.int .i64 N,.int .i64 (k:Int),.int .i64 (p:Int),.slice SK m mc] _ rfl rfl rfl rfl (aG _ _) rfl (by omega) ?_;intro g9 cap w9 S9 ap;have cl:=Hd (S9.sub (qs:=[_,_,_]) (List.Sublist.cons_cons _ (List.Sublist.cons_cons _ (List.Sublist.cons_cons _ (List.nil_sublist _)))));clear S9 ap)
   go_roundw
   ·exact⟨p+1,_,_,_,by omega,by go_num,rfl,by omega,by rw[HC.1];unfold bL;rw[Hr];exact cl.1⟩
   simp[intOf];omega
  have cQ:p=un:=by omega
  have cs:=dF (by omega:un<=p);rw[cQ]at aM cG;have ar:=Hd (aM.1.sub (qs:=[_,_]) (List.Sublist.cons_cons _ (List.Sublist.cons_cons _ (List.nil_sublist _))));go_wp2;go_roundw
  ·exact⟨k+1,_,_,_,by omega,by go_num,rfl,by omega,by rw[H.1];exact ar.1⟩
  simp[intOf];omega
 have ax:k=bn:=by omega
 have a8:=dF (by omega:bn<=k);have H:Hv (kX l bs k=kR l bs):=Hd<|by show _=_;rw[ax];unfold kR;rw[ag.1]
 rw[H.1]at W;go_wp2;go_ret;exact⟨_,_,_,rfl,(W.1.tree 0 rfl).widen z.1.size (Nat.le_refl _),aA z.1 W.1.bel⟩
theorem Ar(d:Dev)(fx:List Int)(cs:List Cn)(FA CA:Oh)(D fc cn cc:Nat)(w:World)(hF:bT w FA D fx)(hC:RdC w w.heap.size (bL cs) (.slice CA cn cc))(hd:bQ d=true)(bW:F7 d fx)(aV:dW (D:Int) cs) :
  Calls Tryz.prog 162 #[.agg (dv d),.slice FA D fc,.slice CA cn cc,.int .i64 8] w fun e w'=>∃A c,e=.returned (.slice A D c)/\aD w w' [.cel (aZ (nT d fx cs 8)) (.slice A D c)]:=by
 have cX:=Hd (aB (Below.refl w.heap.size w) (.cells (dv d) 36));have cR:=Hd (aG w (.cells (dv d) 36));obtain⟨HF,HC⟩:=hd2 hF hC;have bp:Hv (fx.length=D):=Hd<|hF.1
 have bd:Hv (cs.length=cn):=Hd<|hC.cnN
 have dN:cn<=100:=by rw[←bd.1];exact aV.len
 have ej:D<=64:=by have:=aV.blocks;omega
 obtain⟨HD,dP,ax⟩:=hd3 hd bW aV;obtain⟨w1,w2,w3,w4,_⟩:=ak hd;have dp:Hv (∀r,xH D (nT d fx cs r)):=Hd<|fun r=>by have h:=wF hd bW aV r;rw[hF.1]at h;exact h
 obtain⟨cU,cY,cO,cA,cJ⟩:=info_parts tZ;have ag:=Hd (And.intro cY (And.intro cO (And.intro cA cJ)));clear hF hC hd bW aV cY cO cA cJ;go_enter Tryz.func162,Tryz.ntmps162;go_upto_region 1 with fail;generalize w.alloc (.cells (dv d) 36)=W9 at *;have bR:=Hd ((aD.nil (Below.refl W9.heap.size W9)).pushNew 100 2);go_upto_region 2 with fail;have b9:=Hd (aF bR.1.bel cR.1);obtain⟨x0,x1,x2,x3,lx⟩:=bA (b9.1);go_wp2_with fail;refine(dw d _).mono ?_;rw[HD.1];rintro _ wd ⟨rfl,b7⟩;have bY:=Hd (bR.1.below b7);have dO:=Hd (aF b7 b9.1);clear b7 x0 x1 x2 x3 lx;go_wp2_with fail;refine(nZ (D:Int) cs CA cn cc _ (HC.1.below (aA cX.1 bY.1.bel)) (fun c hc=>by have:=(ax.1.fit c hc).len;omega)).mono ?_;rw[bZ ax.1];rintro _ wz ⟨rfl,b1⟩;have da:=Hd (bY.1.below b1);clear b1 bR bY b9 dO;go_wp2_with fail;refine(bV 8 0 20 _).mono ?_;rw[aR.2 ⟨by omega,by omega⟩];rintro _ _ ⟨rfl,rfl⟩;go_wp2_with fail;obtain⟨U,rfl⟩:∃x,x=W9:=⟨W9,rfl⟩;obtain⟨aE,aI⟩:=hd2 cX.1 cR.1
 go_loopw[9,10] (fun v i wr=>∃(k:Nat) (A:Oh) (c:Nat),k<=D/\v=.slice A k c/\i=.int .i64 (k:Int)/\aD U wr [.cel (aZ ((fx.take k).map (wD d))) (.slice A k c)]) (fun _ i _=>D-(intOf i).toNat)
 ·exact⟨0,_,0,by omega,rfl,rfl,da.1⟩
 obtain⟨k,A,c,hk,rfl,rfl,hs⟩:=hrel;have HS:=Hd hs;have aw:=Hd (aA aE.1 hs.bel);have c8:=Hd (aF hs.bel aI.1);clear hs;by_cases cS:k<D
 ·have bO:=dT (by omega:k<D);have J:k<fx.length:=by rw[bp.1];exact cS
  obtain⟨b,o,aX,hb,hc⟩:=HF.1.2 (by omega);have cM:Hv (∀v,Below U.heap.size U v→v.cell? ⟨b,o+k,none⟩=some (.int .i64 (fx[k]?.getD 0))):=Hd<|fun v Y=>((aA aE.1 Y).cell (p:=⟨b,o+k,none⟩) hb).trans (hc k cS)
  have cm:Hv (∀v,Below U.heap.size U v→b<v.heap.size):=Hd<|fun v Y=>aJ (aA aE.1 Y) hb
  have a9:=dP.1 _ (List.getElem_mem J);rw[show fx[k]=fx[k]?.getD 0 by rw[List.getElem?_eq_getElem J];rfl]at a9;have a6:=Hd (bF (z:=0) J);have bE:=Hd aX;clear J hc aX;obtain rfl:=bE.1;generalize fx[k]?.getD 0=t at *;obtain⟨i0,i1⟩:=ib (by omega:k<D);obtain⟨x0,x1,x2,x3,lx⟩:=bA (c8.1);have bP:=HS.1.pushBlk #[.int .i64 (50*(d.W-1)),.int .i64 (50*(d.H-1))] 100;go_upto_region 8 with fail;obtain⟨gB,bD⟩:∃g,wr.heap.size=g:=⟨_,rfl⟩;rw[bD]at bP
  (try rw[bD])
  have G:Hv (aD U (wr.alloc (.cells #[.int .i64 (50*(d.W-1)),.int .i64 (50*(d.H-1))] 100)) [.cel (aZ ((fx.take k).map (wD d))) (.slice A k c),.blk gB #[.int .i64 (50*(d.W-1)),.int .i64 (50*(d.H-1))] 100]):=Hd bP;clear bD bP x0 x1 x2 x3 lx;generalize wr.alloc (.cells #[.int .i64 (50*(d.W-1)),.int .i64 (50*(d.H-1))] 100)=W6 at *;have ck:=cM.1 _ G.1.bel;have lb:=cm.1 _ G.1.bel;by_cases ht:t=-1
  ·have ds:(t != -1)=false:=by simp[ht]
   have a7:Hv (wD d t=⟨50*(d.W-1),50*(d.H-1)⟩):=Hd<|if_pos ht
   clear a9 ht;go_upto_region 12 with fail;clear ck lb;obtain⟨z0,z1,lz⟩:=iC (G.1.blk 1 rfl).1
   go_wp2_with (at_builtin;refine af rfl _ _ 156 100 rfl cU _ 2 16 Tryz.underlying156 ag.1.1 ag.1.2.1 ag.1.2.2.1 ag.1.2.2.2 rfl (by decide) (by decide) _ ((G.1.alloc _).consPin (50*(d.W-1)) (50*(d.H-1))) 1 0 (by decide) k c _ A (((fx.take k).map (wD d)).flatMap aL.cells) _ #[.int .i64 (50*(d.W-1)),.int .i64 (50*(d.H-1))] _ rfl rfl rfl rfl (aG _ _) rfl (by omega) ?_;intro g9 cap w9 S9 a5;have aY:=Hd (S9.tail.sub (List.sublist_append_left [_] [_]));clear S9 a5)
   go_roundw
   ·exact⟨k+1,_,_,by omega,rfl,by go_num,by rw[a6.1,List.map_append,List.map_singleton,a7.1,uF];exact aY.1⟩
   simp[intOf];omega
  have bg:=a9.resolve_left ht;have a7:Hv (wD d t=⟨100*(t%d.W),100*(t/d.W)⟩):=Hd<|if_neg ht
  obtain⟨a0,a1,a2,a3,a4⟩:=jL bg;obtain⟨_,t0,t1⟩:=aP.1 bg;have ew:=(eu HD.1).2;have eO:=qZ d t
  have du:Hv (∀x:World,Calls Tryz.prog 113 #[.agg (dv d),.int .i64 t] x fun e w'=>e=.returned (.int .i64 (ah d t))/\Below x.heap.size x w'):=Hd<|fun x=>by
   have h:=lH d t x;rw[show lK d t=ah d t from if_pos bg]at h;exact h
  generalize ah d t=kd at *;have dk:decide (kd<0)=false:=decide_eq_false (by omega);have ds:(t != -1)=true:=by simp[ht]
  clear a9 a4 bg ht;go_upto_region 9 with fail;have I:Hv (∀w',Below U.heap.size U w'→(KD w' w.heap.size d (w'.cell? ⟨b,o+k,none⟩=some (.int .i64 t)))):=Hd<|fun v Y=>⟨aC (k:=0) (aF Y aI.1) rfl,aC (k:=1) (aF Y aI.1) rfl,aC (k:=2) (aF Y aI.1) rfl,aC (k:=3) (aF Y aI.1) rfl,cM.1 v Y⟩
  have cT:Hv (∀w',Below U.heap.size U w'→w.heap.size<w'.heap.size):=Hd<|fun v Y=>aH (aF Y aI.1)
  clear ck;obtain⟨x0,x1,x2,x3,ck⟩:=I.1 _ G.1.bel;have lx:=cT.1 _ G.1.bel;have hD:=(Below.refl W6.heap.size W6).drew
  go_cut[63] (fun v w'=>v=.bool false/\Below W6.heap.size W6 w')
  case first =>
   go_region_held3 (fun w'=>KD w' w.heap.size d (w'.cell? ⟨b,o+k,none⟩=some (.int .i64 t)))
    (first|with_reducible exact I.1 _ (aA G.1.bel hD))
    ((first
     | (go_at_call 113;(with_reducible refine(du.1 _).mono ?_);rintro _ w5 ⟨rfl,b5⟩;replace hD:=aA hD b5;clear b5)))
   all_goals
    go_wp2;go_meet;exact⟨rfl,hD⟩
  obtain⟨rfl,cp⟩:=hcut;have K:=Hd (G.1.below cp);clear cp x0 x1 x2 x3 ck lb lx hD G;obtain⟨W5,rfl⟩:∃y,y=wc:=⟨wc,rfl⟩;go_upto_region 11 with fail;obtain⟨x0,x1,x2,x3,ck⟩:=I.1 _ K.1.bel;have lx:=cT.1 _ K.1.bel;have lb:=cm.1 _ K.1.bel;obtain⟨z0,z1⟩:=cs2 (K.1.blk 1 rfl).1;have df:=aN (K.1.blk 1 rfl).1 0;have dh:=aN (K.1.blk 1 rfl).1 1;have lz:=aH (K.1.blk 1 rfl).1;have q0:¬d.W=0:=by omega
  have q1:t.tmod d.W=t%d.W:=Int.tmod_eq_emod_of_nonneg t0;have q2:IntKind.i64.wrap (t.tdiv d.W)=t/d.W:=IntWalk.i64_quo _ _ ⟨t0,by omega,by omega⟩;have q3:t.tdiv d.W=t/d.W:=Int.tdiv_eq_ediv_of_nonneg t0;obtain⟨tx,b8⟩:∃z,t%d.W=z:=⟨_,rfl⟩;obtain⟨ty,hty⟩:∃z,t/d.W=z:=⟨_,rfl⟩;rw[b8]at q1 a0 a1;rw[hty]at q2 q3 a2 a3;rw[b8,hty]at a7;have q4:wrap64 ty=ty:=IntWalk.wrap64_in _ ⟨by omega,by omega⟩;have q5:IntKind.i64.wrap ty=ty:=IntWalk.i64_in _ (by omega);have q6:IntKind.i64.wrap (100*tx)=100*tx:=IntWalk.i64_in _ (by omega);have q7:IntKind.i64.wrap (100*ty)=100*ty:=IntWalk.i64_in _ (by omega);have cH:Hv (∀w',Below U.heap.size U w'→(w'.cell? ⟨w.heap.size,0,none⟩=some (.int .i64 d.W)/\w'.cell? ⟨b,o+k,none⟩=some (.int .i64 t))):=Hd<|fun v Y=>⟨(I.1 v Y).1,(I.1 v Y).2.2.2.2⟩
  have hD:=K.1.drew.bel;clear b8 hty;have G:Hv (aD U ((W5.setCell ⟨gB,0,none⟩ (.int .i64 (100*tx))).setCell ⟨gB,1,none⟩ (.int .i64 (100*ty))).drew [.cel (aZ ((fx.take k).map (wD d))) (.slice A k c),.blk gB #[.int .i64 (100*tx),.int .i64 (100*ty)] 100]):=Hd ((K.1.put 1 rfl 0 (.int .i64 (100*tx))).put 1 rfl 1 (.int .i64 (100*ty))).drew
  go_cut[] from 65 to 81 (fun w'=>w'=((W5.setCell ⟨gB,0,none⟩ (.int .i64 (100*tx))).setCell ⟨gB,1,none⟩ (.int .i64 (100*ty))).drew)
  case first =>
   go_region_held3 (fun w'=>w'.cell? ⟨w.heap.size,0,none⟩=some (.int .i64 d.W)/\w'.cell? ⟨b,o+k,none⟩=some (.int .i64 t))
    (first|with_reducible exact cH.1 _ hD|with_reducible exact cH.1 _ G.1.bel)
    (fail)
   all_goals
    go_wp2;go_meet;rfl
  generalize ((W5.setCell ⟨gB,0,none⟩ (.int .i64 (100*tx))).setCell ⟨gB,1,none⟩ (.int .i64 (100*ty))).drew=W7 at *;subst hcut;clear x0 x1 x2 x3 ck lx lb z0 z1 df dh lz;obtain⟨z0,z1,lz⟩:=iC (G.1.blk 1 rfl).1
  go_wp2_with (at_builtin;refine af rfl _ _ 156 100 rfl cU _ 2 16 Tryz.underlying156 ag.1.1 ag.1.2.1 ag.1.2.2.1 ag.1.2.2.2 rfl (by decide) (by decide) _ ((G.1.alloc _).consPin (100*tx) (100*ty)) 1 0 (by decide) k c _ A (((fx.take k).map (wD d)).flatMap aL.cells) _ #[.int .i64 (100*tx),.int .i64 (100*ty)] _ rfl rfl rfl rfl (aG _ _) rfl (by omega) ?_;intro g9 cap w9 S9 a5;have aY:=Hd (S9.tail.sub (List.sublist_append_left [_] [_]));clear S9 a5)
  go_roundw
  ·exact⟨k+1,_,_,by omega,rfl,by go_num,by rw[a6.1,List.map_append,List.map_singleton,a7.1,uF];exact aY.1⟩
  simp[intOf];omega
 have aO:k=D:=by omega
 have bO:=dF (by omega:D<=k);have a6:Hv (fx.take k=fx):=Hd<|by show _=_;rw[aO];exact List.take_of_length_le (by rw[bp.1];exact Nat.le_refl _)
 have hs:=HS.1;rw[a6.1]at hs;subst aO;have dg:Hv (aD U wr [.cel (aZ (nT d fx cs 0)) (.slice A k c)]):=Hd hs;clear hs HS a6;obtain⟨D,rfl⟩:∃x,x=k:=⟨k,rfl⟩;go_wp2
 go_loopw[12] (fun v wr=>∃r:Nat,r<=8/\v=.int .i64 (r:Int)/\aD U wr [.cel (aZ (nT d fx cs r)) (.slice A D c)]) (fun v _=>8-(intOf v).toNat)
 ·exact⟨0,by omega,rfl,dg.1⟩
 obtain⟨r,hr,rfl,hs⟩:=hrel;have HS:=Hd hs;have cN:=Hd (dp.1 r);have dL:Hv (nT d fx cs (r+1)=kH fx cs (nT d fx cs r) fx.length):=Hd<|rfl
 clear hs;by_cases eK:r<8
 ·have dr:decide ((r:Int)<8)=true:=by simp;omega
  generalize nT d fx cs r=O0 at *;obtain⟨wo,rfl⟩:∃x,x=wr:=⟨wr,rfl⟩;go_wp2
  go_loopw[13] (fun v wr=>∃j:Nat,j<=D/\v=.int .i64 (j:Int)/\aD U wr [.cel (aZ (kH fx cs O0 j)) (.slice A D c)]) (fun v _=>D-(intOf v).toNat)
  ·exact⟨0,by omega,rfl,HS.1⟩
  obtain⟨j,ez,rfl,hs⟩:=hrel;have aS:=Hd hs;have V:=Hd (aA aE.1 hs.bel);clear hs;by_cases aQ:j<D
  ·have dx:=dT (by omega:j<D);have J:j<fx.length:=by rw[bp.1];exact aQ
   obtain⟨bb,ob,aX,hb,hc⟩:=HF.1.2 (by omega);have ck:=(V.1.cell (p:=⟨bb,ob+j,none⟩) hb).trans (hc j aQ);have lb:=aJ V.1 hb;have bE:=Hd aX;have cy:Hv (kH fx cs O0 (j+1)=if fx[j]?.getD 0=-1 then Ih (kH fx cs O0 j) j (qh (kH fx cs O0 j) (j:Int) cs cs.length)else kH fx cs O0 j):=Hd<|rfl
   have ap:=Hd (yg (fx:=fx) ax.1 cN.1 j);clear J hc aX;obtain rfl:=bE.1;obtain⟨i0,i1⟩:=ib (by omega:j<D);obtain⟨t,ht⟩:∃t,fx[j]?.getD 0=t:=⟨_,rfl⟩;rw[ht]at ck;by_cases bo:t=-1
   ·subst bo;have dy:=Hd ht;have cj:=Hd (aS.1.rd 0 rfl);obtain⟨O,hO⟩:∃O,kH fx cs O0 j=O:=⟨_,rfl⟩;rw[hO]at aS cj ap;have dz:=Hd hO;clear ht hO cy;obtain⟨w3,rfl⟩:∃x,x=wr:=⟨wr,rfl⟩;go_wp2_with fail;clear ck lb
    go_loopw[14,15,16,17] (fun x y z i wr=>∃(k:Nat) (R:A3),k<=cn/\x=.int .i64 R.x/\y=.int .i64 R.y/\z=.int .i64 R.n/\i=.int .i64 (k:Int)/\qh O (j:Int) cs k=R/\Below w3.heap.size w3 wr) (fun _ _ _ i _=>cn-(intOf i).toNat)
    ·exact⟨0,A3.zero,by omega,rfl,rfl,rfl,rfl,rfl,Below.refl _ _⟩
    obtain⟨k,R,hk,rfl,rfl,rfl,rfl,cr,co⟩:=hrel;obtain⟨bm,bS⟩:=hd2 cr co;clear cr co;by_cases cw:k<cn
    ·have bO:=dT (by omega:k<cn);have J:k<cs.length:=by rw[bd.1];exact cw
     have ct:Hv (qh O (j:Int) cs (k+1)=if tch (cs[k]?.getD Cn.zero) (j:Int)then pq O (j:Int) (bN (cs[k]?.getD Cn.zero)) R (bN (cs[k]?.getD Cn.zero)).length else R):=Hd<|by show _=_;rw[qh,bm.1]
     obtain⟨bc,oc,SA,m,mc,cG,Q,c0,c1,c2,c3,rs⟩:=HC.1.cn (k:=k) J;have au:=wE ax.1 J;have dK:=Hd cG
     have cL:Hv (∀p∈bN (cs[k]?.getD Cn.zero),0<=p.block/\p.block<(D:Int)):=Hd<|fun p hp=>by
      unfold bN at hp;rw[List.mem_cons]at hp
      rcases hp with rfl|hp
      ·exact au.src.1
      exact(au.sinks p hp).1
     have bz:=au.len;have am:=(uH ap.1 (i:=(j:Int)) ax.1 (show k<=cs.length by omega));rw[bm.1]at am;have dH:=Hd am.1;have av:=am.2;clear J cG au am;obtain rfl:=dK.1;have aw:=Hd (aA V.1 bS.1);have e1:=c1;have e2:=c2;have e3:=c3;have c0:=(aw.1.cell (p:=⟨bc,oc+k*4,none⟩) Q).trans c0;have c1:=(aw.1.cell (p:=⟨bc,oc+k*4+1,none⟩) Q).trans c1;have c2:=(aw.1.cell (p:=⟨bc,oc+k*4+2,none⟩) Q).trans c2;have c3:=(aw.1.cell (p:=⟨bc,oc+k*4+3,none⟩) Q).trans c3;have bs:=aJ aw.1 Q;generalize cs[k]?.getD Cn.zero=cx at *;obtain⟨N,⟨a,b⟩,ss⟩:=cx;simp only at c0 c1 c2 c3 e1 e2 e3 bz;have bH:=Hd (show RdC w w.heap.size (aZ ss) (.slice SA m mc) from rs);have ch:Hv (ss.length=m):=Hd<|bH.1.pinN
     rw[ch.1]at bz;obtain⟨dC,em⟩:=bz;obtain⟨i0,i1⟩:=ib (by omega:k<cn);have dl:(0:Int)<=(j:Int):=by omega
     clear rs;have bB:Hv (∀v,Below w3.heap.size w3 v→(v.cell? ⟨bc,oc+k*4+1,none⟩=some (.int .i64 a)/\v.cell? ⟨bc,oc+k*4+2,none⟩=some (.int .i64 b)/\v.cell? ⟨bc,oc+k*4+3,none⟩=some (.slice SA m mc))):=Hd<|fun v Y=>⟨(aA V.1 Y |>.cell (p:=⟨bc,oc+k*4+1,none⟩) Q).trans e1,(aA V.1 Y |>.cell (p:=⟨bc,oc+k*4+2,none⟩) Q).trans e2,(aA V.1 Y |>.cell (p:=⟨bc,oc+k*4+3,none⟩) Q).trans e3⟩
     have b3:=Hd bS.1;clear e1 e2 e3;go_wp2_with fail;refine(zi N a b ss SA m mc (j:Int) _ (bH.1.below (aA V.1 b3.1)) (by omega)).mono ?_;by_cases ay:tch ⟨N,⟨a,b⟩,ss⟩ (j:Int)
     ·rw[bZ ay];rintro _ w4 ⟨rfl,b4⟩;have Z:=Hd (aA b3.1 b4);have dB:=Hd ay;clear b4 ay c0 c1 c2 c3 bs;go_upto_region 27 with fail;obtain⟨c1,c2,c3⟩:=bB.1 _ Z.1;have bs:=aJ (aA V.1 Z.1) Q;have hS:=Hd (aD.nil (Below.refl w4.heap.size w4)).drew;have hD:=hS.1.bel
      go_cut[18] (fun v w'=>∃g c,v=.slice (some ⟨g,0,none⟩) (1+m) c/\aD w4 w' [.cel (aZ (bN ⟨N,⟨a,b⟩,ss⟩)) (.slice (some ⟨g,0,none⟩) (1+m) c)])
      case first =>
       go_region_held3 (fun w'=>w'.cell? ⟨bc,oc+k*4+1,none⟩=some (.int .i64 a)/\w'.cell? ⟨bc,oc+k*4+2,none⟩=some (.int .i64 b)/\w'.cell? ⟨bc,oc+k*4+3,none⟩=some (.slice SA m mc))
        (first|with_reducible exact bB.1 _ (aA Z.1 hD)|with_reducible exact bB.1 _ (aA Z.1 (aB (Below.refl _ _) _).drew))
        ((first
         | (refine Dv rfl _ _ (by rfl) _ (hS.1.consPins1 a b) 0 1 1 m mc _ SA [⟨a,b⟩] ss rfl (by rfl) (by rfl) (bH.1.below (aA V.1 (aA Z.1 (aB (Below.refl _ _) _).drew))) dC (by omega) ?_;intro g9 cap w9 S9 a5;have aY:=Hd S9;replace hD:=S9.bel;clear S9 a5)))
       all_goals
        go_wp2;go_meet;exact⟨_,_,rfl,aY.1⟩
      obtain⟨gP,cP,rfl,S5⟩:=hcut;obtain⟨w5,rfl⟩:∃y,y=wc:=⟨wc,rfl⟩;clear c1 c2 c3 bs hD;have dA:=Hd S5;have cW:=Hd (aA Z.1 S5.bel);clear S5;have cQ:Hv ((bN ⟨N,⟨a,b⟩,ss⟩).length=1+m):=Hd<|by show _=_;unfold bN;rw[List.length_cons,ch.1];omega
      have cg:Hv (∀q,A3I (pq O (j:Int) (bN ⟨N,⟨a,b⟩,ss⟩) R q)/\(pq O (j:Int) (bN ⟨N,⟨a,b⟩,ss⟩) R q).n<=R.n+(q:Int)):=Hd<|fun q=>yf ap.1 _ dH.1 q
      generalize bN ⟨N,⟨a,b⟩,ss⟩=ps at *;go_wp2
      go_loopw[14,15,16,19] (fun x y z i wr=>∃(q:Nat) (ab:A3),q<=1+m/\x=.int .i64 ab.x/\y=.int .i64 ab.y/\z=.int .i64 ab.n/\i=.int .i64 (q:Int)/\pq O (j:Int) ps R q=ab/\Below w5.heap.size w5 wr) (fun _ _ _ i _=>1+m-(intOf i).toNat)
      ·exact⟨0,R,by omega,rfl,rfl,rfl,rfl,rfl,Below.refl _ _⟩
      obtain⟨q,ab,hq,rfl,rfl,rfl,rfl,b2,cF⟩:=hrel;obtain⟨ci,al⟩:=hd2 b2 cF;have cI:=cg.1 q;rw[b2]at cI;clear b2 cF;obtain⟨ar,cE⟩:=cI;have d8:=Hd ar;obtain⟨ao,ai,aj⟩:=ab;unfold A3I at ar;simp only at ar cE;obtain⟨n0,⟨bn,cq⟩,bj,cD⟩:=ar;by_cases cf:q<1+m
      ·have c9:decide ((q:Int)<((1+m:Nat):Int))=true:=by simp;omega
       have br:q<ps.length:=by rw[cQ.1];exact cf
       obtain⟨bq,oq,hA,bX,c0,c1⟩:=(dA.1.rd 0 rfl).pin (k:=q) br;injection hA with hA
       injection hA with hA hAF
       subst hA hAF;rw[Nat.zero_add]at c0 c1;have c0:=(al.1.cell (p:=⟨gP,q*2,none⟩) bX).trans c0;have c1:=(al.1.cell (p:=⟨gP,q*2+1,none⟩) bX).trans c1;have lq:=aJ al.1 bX;have be:=cL.1 _ (List.getElem_mem br);rw[show ps[q]=ps[q]?.getD aL.zero by rw[List.getElem?_eq_getElem br];rfl]at be;have cv:Hv (pq O (j:Int) ps R (q+1)=F6 O (j:Int) ⟨ao,ai,aj⟩ (ps[q]?.getD aL.zero)):=Hd<|by show _=_;rw[pq,ci.1]
       clear br;generalize ps[q]?.getD aL.zero=p at *;obtain⟨pb,pp⟩:=p;simp only at c0 c1 be;obtain⟨B,rfl⟩:∃B:Nat,pb=(B:Int):=⟨_,(Int.toNat_of_nonneg be.1).symm⟩;have cB:B<D:=by omega
       obtain⟨gO,oO,aM,bx,d0,d1⟩:=cj.1.pin (k:=B) (by rw[ap.1.len];exact cB);have bw:=Hd aM;have bC:=ap.1.at_ (B:Int);have bv:Hv (tC O (B:Int)=O[B]?.getD aL.zero):=Hd<|by show _=_;unfold tC;rw[Int.toNat_natCast]
       rw[bv.1]at bC;have bK:=Hd (aA cW.1 al.1);have d0:=(bK.1.cell (p:=⟨gO,oO+B*2,none⟩) bx).trans d0;have d1:=(bK.1.cell (p:=⟨gO,oO+B*2+1,none⟩) bx).trans d1;have lo:=aJ bK.1 bx;generalize O[B]?.getD aL.zero=po at *;obtain⟨px,py⟩:=po;simp only at d0 d1 bC;obtain⟨⟨ek,eN⟩,eI,ey⟩:=bC;have i0:(0:Int)<=(q:Int):=by omega
       have i1:(q:Int)<((1+m:Nat):Int):=by omega
       obtain⟨B0,B1⟩:=ib (by omega:B<D);clear be aM cB;obtain rfl:=bw.1;by_cases aK:(B:Int)=(j:Int)
       ·have db:((B:Int) != (j:Int))=false:=by simp[aK]
        have aq:Hv (pq O (j:Int) ps R (q+1)=⟨ao,ai,aj⟩):=Hd<|by show _=_;rw[cv.1];exact if_neg (by simp[aK])
        clear aK;go_wp2;go_roundw
        ·exact⟨q+1,⟨ao,ai,aj⟩,by omega,rfl,rfl,rfl,by go_num,aq.1,al.1⟩
        simp[intOf];omega
       have db:((B:Int) != (j:Int))=true:=by simp[aK]
       have aq:Hv (pq O (j:Int) ps R (q+1)=⟨ao+px,ai+py,aj+1⟩):=Hd<|by show _=_;rw[cv.1];unfold F6;rw[if_pos aK,bv.1]
       clear aK;go_wp2;go_roundw
       ·exact⟨q+1,⟨ao+px,ai+py,aj+1⟩,by omega,rfl,rfl,rfl,by go_num,aq.1,al.1⟩
       simp[intOf];omega
      have cK:q=1+m:=by omega
      have c9:decide ((q:Int)<((1+m:Nat):Int))=false:=by simp;omega
      have aq:Hv (qh O (j:Int) cs (k+1)=⟨ao,ai,aj⟩):=Hd<|by show _=_;rw[ct.1,if_pos dB.1,cQ.1,←cK];exact ci.1
      clear cK;go_wp2;go_roundw
      ·exact⟨k+1,⟨ao,ai,aj⟩,by omega,rfl,rfl,rfl,by go_num,aq.1,aA cW.1 al.1⟩
      simp[intOf];omega
     rw[dU ay];rintro _ w4 ⟨rfl,b4⟩;have Z:=Hd (aA b3.1 b4);have aq:Hv (qh O (j:Int) cs (k+1)=R):=Hd<|by show _=_;rw[ct.1,if_neg ay]
     clear b4 ay c0 c1 c2 c3 bs;go_wp2;go_roundw
     ·exact⟨k+1,R,by omega,rfl,rfl,rfl,by go_num,aq.1,Z.1⟩
     simp[intOf];omega
    have aO:k=cn:=by omega
    have bO:=dF (by omega:cn<=k);have am:=(uH ap.1 (i:=(j:Int)) ax.1 (show k<=cs.length by rw[bd.1];omega));rw[bm.1]at am;obtain⟨bJ,av⟩:=am
    have bl:Hv (kH fx cs O0 (j+1)=Ih O j R):=Hd<|by
     show _=_;rw[kH,if_pos dy.1,dz.1];rw[←bm.1,aO,bd.1]
    have cC:=Hd (aS.1.below bS.1);obtain⟨ad,ae,u⟩:=R;unfold A3I at bJ;simp only at bJ av;obtain⟨n0,⟨bn,cq⟩,bj,cD⟩:=bJ;clear aO;by_cases hn:0<u
    ·have dn:decide (u>0)=true:=decide_eq_true hn;have de:decide (0<u)=true:=decide_eq_true hn;have aU:Hv (kH fx cs O0 (j+1)=O.set j ⟨ad/u,ae/u⟩):=Hd<|by show _=_;rw[bl.1];exact if_pos hn
     obtain⟨gO,aM,lO,e0,e1,f0,f1,bu⟩:=cC.1.setPin 0 rfl (i:=j) (by rw[ap.1.len];exact aQ);have dS:=Hd (bu ⟨ad/u,ae/u⟩);have bw:=Hd aM;have q0:¬u=0:=by omega
     have q1:IntKind.i64.wrap (ad.tdiv u)=ad/u:=IntWalk.i64_quo _ _ ⟨bn,by omega,by omega⟩;have q2:IntKind.i64.wrap (ae.tdiv u)=ae/u:=IntWalk.i64_quo _ _ ⟨bj,by omega,by omega⟩;have q3:ad.tdiv u=ad/u:=Int.tdiv_eq_ediv_of_nonneg bn;have q4:ae.tdiv u=ae/u:=Int.tdiv_eq_ediv_of_nonneg bj;have ⟨d0,d1⟩:=DJ n0 hn bn cq av;have ⟨d2,d3⟩:=DJ n0 hn bj cD av;have q5:wrap64 (ad/u)=ad/u:=IntWalk.wrap64_in _ ⟨by omega,by omega⟩;have q6:wrap64 (ae/u)=ae/u:=IntWalk.wrap64_in _ ⟨by omega,by omega⟩;obtain⟨dl,eJ⟩:=ib (by omega:j<D);clear bu aM;obtain rfl:=bw.1;go_upto_region 36 with fail
     go_region_with (fail)
     all_goals
      go_wp2;go_roundw
      ·exact⟨j+1,by omega,by go_num,by rw[aU.1];exact dS.1.drew⟩
      simp[intOf];omega
    have dn:decide (u>0)=false:=decide_eq_false hn;have de:decide (0<u)=false:=decide_eq_false hn;have aU:Hv (kH fx cs O0 (j+1)=O):=Hd<|by show _=_;rw[bl.1];exact if_neg hn
    go_wp2;go_roundw
    ·exact⟨j+1,by omega,by go_num,by rw[aU.1];exact cC.1⟩
    simp[intOf];omega
   have dt:(t != -1)=true:=by simp[bo]
   have bl:Hv (kH fx cs O0 (j+1)=kH fx cs O0 j):=Hd<|by show _=_;rw[cy.1,ht];exact if_neg bo
   clear bo ht;go_wp2;go_roundw
   ·exact⟨j+1,by omega,by go_num,by rw[bl.1];exact aS.1⟩
   simp[intOf];omega
  have ce:j=D:=by omega
  have dx:=dF (by omega:D<=j)
  have dI:Hv (aD U wr [.cel (aZ (nT d fx cs (r+1))) (.slice A D c)]):=Hd<|by
   have hs:=aS.1;rw[ce]at hs;show aD _ _ _;rw[dL.1,bp.1];exact hs
  clear ce;go_wp2;go_roundw
  ·exact⟨r+1,by omega,by go_num,dI.1⟩
  simp[intOf];omega
 have dm:r=8:=by omega
 subst dm;have dr:decide (((8:Nat):Int)<8)=false:=by simp
 have HV:=Hd (HS.1.lowerC aE.1 (lo:=U.heap.size) (hi:=U.heap.size) aE.1.size (Nat.le_refl _) (Chg.refl' _ _ _));go_wp2;go_ret;exact⟨_,_,rfl,HV.1⟩
theorem wB(d:Dev)(ks:List Int)(cs:List Cn)(KA CA:Oh)(j kc cn cc:Nat)(w:World)(hK:bT w KA j ks)(hC:RdC w w.heap.size (bL cs) (.slice CA cn cc))(hd:bQ d=true)(bj:∀k∈ks,0<=k/\k<=3)(bm:∀c∈cs,c.sinks.length<=1048576)(cR:j<=1048576) :
  Calls Tryz.prog 85 #[.agg (dv d),.slice KA j kc,.slice CA cn cc] w fun e w'=>(∃p A c,iniR d ks cs=some p/\e=.returned (.tuple #[.slice A j c,.bool true])/\Own w.heap.size w' A j c p/\Below w.heap.size w w')∨(iniR d ks cs=none/\(∃A n c,e=.returned (.tuple #[.slice A n c,.bool false]))/\Below w.heap.size w w'):=by
 have ae:=Hd (aB (Below.refl w.heap.size w) (.cells (dv d) 36));have aw:=Hd (aG w (.cells (dv d) 36));obtain⟨HK,HC⟩:=hd2 hK hC;have G:Hv (ks.length=j):=Hd<|hK.1
 obtain⟨HD,cp⟩:=hd2 hd bm
 have a4:Hv (∀k:Nat,k<j→0<=aW (ks[k]?.getD 0)):=Hd<|fun k hk=>by
  have h:=bj (ks[k]?.getD 0) (by rw[List.getElem?_eq_getElem (by rw[hK.1];exact hk)];exact List.getElem_mem _);unfold aW
  split
  ·omega
  split
  ·omega
  split <;> omega
 have cr:=uG d 0;clear hK hC hd bj bm;go_enter Tryz.func85,Tryz.ntmps85;go_upto_region 1 with fail;generalize w.alloc (.cells (dv d) 36)=W9 at *;have ay:=Hd ((aD.nil (Below.refl W9.heap.size W9)).pushNew 3 1);have bG:=Hd (aF ay.1.bel aw.1);go_upto_region 2 with fail;obtain⟨gO,aO⟩:∃g,W9.heap.size=g:=⟨_,rfl⟩;rw[aO]at ay
 (try rw[aO])
 clear aO;generalize W9.alloc (.cells #[] 3)=W0 at *;obtain⟨x0,x1,x2,x3,lx⟩:=bA (bG.1);go_wp2_with fail;refine(dw d _).mono ?_;rw[HD.1];rintro _ wd ⟨rfl,bD⟩;have au:=Hd (ay.1.below bD);clear bD x0 x1 x2 x3 lx ay bG;go_wp2_with fail;refine(nZ (j:Int) cs CA cn cc _ (HC.1.below (aA ae.1 au.1.bel)) cp.1).mono ?_;by_cases Y:dW (j:Int) cs
 case neg =>
  rw[dU Y];rintro _ w1 ⟨rfl,b1⟩;have aj:Hv (iniR d ks cs=none):=Hd<|DN (by rw[G.1];exact Y)
  go_wp2
  go_ret2
  exact .inr ⟨aj.1,⟨_,_,_,rfl⟩,aA ae.1 (au.1.below b1).bel⟩
 rw[bZ Y];rintro _ w1 ⟨rfl,b1⟩;have aS:=Hd (au.1.below b1);have a2:=Hd (aA ae.1 aS.1.bel);have bY:=Hd (aF aS.1.bel aw.1);have bs:Hv (iniR d ks cs=A8 d ks cs):=Hd<|zJ (by rw[G.1];exact Y)
 have ct:j<=64:=by have:=Y.blocks;omega
 have be:=Hd Y;clear b1 Y au;obtain⟨W1,rfl⟩:∃x,x=w1:=⟨w1,rfl⟩;go_wp2
 go_loopw[9,10] (fun v i wr=>∃k:Nat,k<=j/\v=.int .i64 (ioN ks k:Int)/\i=.int .i64 (k:Int)/\Below W1.heap.size W1 wr) (fun _ i _=>j-(intOf i).toNat)
 ·exact⟨0,by omega,rfl,rfl,Below.refl _ _⟩
 obtain⟨k,hk,rfl,rfl,bn⟩:=hrel;have u:=Hd bn;clear bn;by_cases q:k<j
 ·have ak:=dT (by omega:k<j);have K:k<ks.length:=by rw[G.1];exact q
  obtain⟨b,o,I,hb,hc⟩:=HK.1.2 (by omega);have ck:=((aA a2.1 u.1).cell (p:=⟨b,o+k,none⟩) hb).trans (hc k q);have lb:=aJ (aA a2.1 u.1) hb;have bJ:=a4.1 k q;have al:=Hd I;obtain⟨i0,i1⟩:=ib (by omega:k<j);have ao:=Hd (qi ks K);have cv:=xI ks k;clear K hc I;obtain rfl:=al.1;generalize ioN ks k=N at *;generalize ks[k]?.getD 0=kd at *;have ad:=Hd (fun(v:World)=>gu kd v);generalize aW kd=bt at *;have d1:decide (bt<0)=false:=decide_eq_false (by omega);go_wp2_with fail;refine(ad.1 _).mono ?_;rintro _ _ ⟨rfl,rfl⟩;go_wp2_with fail;refine(ad.1 _).mono ?_;rintro _ _ ⟨rfl,rfl⟩;by_cases R:bt=0
  ·have dz:(bt==0)=true:=by simp[R]
   have U:Hv (ioN ks (k+1)=N+1):=Hd<|by show _=_;rw[ao.1,if_pos R]
   clear R;go_wp2_with fail;refine(rV true _).mono ?_;rintro _ _ ⟨rfl,rfl⟩;go_wp2;go_roundw
   ·exact⟨k+1,by omega,by rw[U.1];go_num,by go_num,u.1⟩
   simp[intOf];omega
  have dz:(bt==0)=false:=by simp[R]
  have U:Hv (ioN ks (k+1)=N):=Hd<|by show _=_;rw[ao.1,if_neg R];rfl
  clear R;go_wp2_with fail;refine(rV false _).mono ?_;rintro _ _ ⟨rfl,rfl⟩;go_wp2;go_roundw
  ·exact⟨k+1,by omega,by rw[U.1],by go_num,u.1⟩
  simp[intOf];omega
 have z:k=j:=by omega
 have ak:=dF (by omega:j<=k);obtain⟨B,W⟩:∃B,ioN ks j=B:=⟨_,rfl⟩;have ai:=Hd W;have cv:B<=j:=by rw[←W];exact xI ks j
 rw[z,W];clear z W hk;go_upto_region 11 with fail;have D:=Hd (aF u.1 bY.1);obtain⟨x0,x1,x2,x3,lx⟩:=bA (D.1);go_wp2_with fail;refine(su d 0 _).mono ?_;rintro _ w2 ⟨TA,m,tc,rfl,o2,b2⟩;have av:Hv ((fq d 0).length=m):=Hd<|o2.len
 have bl:=Hd o2.ints;have cu:=Hd (aA (aA a2.1 u.1) b2);have cU:=Hd (aF b2 D.1);rw[av.1]at cr
 have a1:Hv (A8 d ks cs=if m<B then none else jP d ks (ioL ks (fq d 0) B j) (nT d (ioL ks (fq d 0) B j) cs 8) j):=Hd<|by
  show _=_;unfold A8;rw[G.1,av.1,ai.1]
 have bF:Hv (B<=m→yQ d ks (ioL ks (fq d 0) B j)):=Hd<|fun h=>by
  have h2:=Ii (d:=d) (ks:=ks) (by rw[G.1,ai.1,av.1];exact h);rw[G.1,ai.1]at h2;exact h2
 have ci:=Hd ((aS.1.below u.1).pushOwn b2 o2);generalize fq d 0=TS at *;clear o2 b2 x0 x1 x2 x3 lx;by_cases bb:m<B
 ·have dm:decide ((B:Int)>(m:Int))=true:=by simp;omega
  have cw:decide (m<B)=true:=by simp;omega
  have aj:Hv (iniR d ks cs=none):=Hd<|by show _=_;rw[bs.1,a1.1,if_pos bb]
  go_wp2
  go_ret2
  exact .inr ⟨aj.1,⟨_,_,_,rfl⟩,cu.1⟩
 have dm:decide ((B:Int)>(m:Int))=false:=by simp;omega
 have cw:decide (m<B)=false:=by simp;omega
 have am:Hv (iniR d ks cs=jP d ks (ioL ks TS B j) (nT d (ioL ks TS B j) cs 8) j):=Hd<|by show _=_;rw[bs.1,a1.1,if_neg bb]
 have aU:=Hd (bF.1 (by omega));clear bF a1;go_wp2
 go_loopw[8,12,13] (fun tv iv kv wr=>∃(k:Nat) (A:Oh) (c:Nat),k<=j/\tv=.slice A k c/\iv=.int .i64 (ioN ks k:Int)/\kv=.int .i64 (k:Int)/\aD W9 wr [.cel (aI (ioL ks TS B k)) (.slice A k c),.cel (aI TS) (.slice TA m tc)]) (fun _ _ kv _=>j-(intOf kv).toNat)
 ·exact⟨0,_,0,by omega,rfl,rfl,rfl,ci.1⟩
 obtain⟨k,A,c,hk,rfl,rfl,rfl,hs⟩:=hrel;have H:=Hd hs;have u:=Hd (aA ae.1 hs.bel);clear hs;by_cases q:k<j
 ·have ak:=dT (by omega:k<j);have K:k<ks.length:=by rw[G.1];exact q
  obtain⟨b,o,I,hb,hc⟩:=HK.1.2 (by omega);have ck:=(u.1.cell (p:=⟨b,o+k,none⟩) hb).trans (hc k q);have lb:=aJ u.1 hb;have bJ:=a4.1 k q;have al:=Hd I;obtain⟨i0,i1⟩:=ib (by omega:k<j);have ao:=Hd (qi ks K);have bw:=Hd (zI ks TS B k);have da:=xI ks k;have cl:Hv (aW (ks[k]?.getD 0)=0→ioN ks k<B):=Hd<|fun h=>by rw[←ai.1,←G.1];exact yh ks K h
  have bq:Hv (aW (ks[k]?.getD 0)=0→ioT ks TS B k=TS[ioN ks k*m/B]?.getD 0):=Hd<|fun h=>by rw[LF h,av.1]
  have bh:Hv (¬aW (ks[k]?.getD 0)=0→ioT ks TS B k=-1):=Hd<|fun h=>LG h
  clear K hc I;obtain rfl:=al.1;generalize ioN ks k=N at *;generalize ks[k]?.getD 0=kd at *;generalize ioT ks TS B k=V at *;generalize ch:ioL ks TS B k=XS at *;have ad:=Hd (fun(v:World)=>gu kd v);generalize aW kd=bt at *;have bl:=Hd (H.1.ints 1 rfl);clear ch;go_wp2_with fail;refine(ad.1 _).mono ?_;rintro _ _ ⟨rfl,rfl⟩;clear ck lb;by_cases R:bt=0
  ·have dz:(bt==0)=true:=by simp[R]
   have U:Hv (ioN ks (k+1)=N+1):=Hd<|by show _=_;rw[ao.1,if_pos R]
   have W:=cl.1 R;have bf:=bq.1 R;have aE:N*m/B<m:=L8 W (by omega);obtain⟨c8,ot,bk,br,a9⟩:=bl.1.2 (by omega);have cT:=a9 _ aE;have lT:=br;rw[←bf]at cT;have cj:=Hd bk;obtain⟨P,hP⟩:∃P,N*m=P:=⟨_,rfl⟩;have cG:P<=64*36:=by rw[←hP];exact Nat.mul_le_mul (by omega) (by omega)
   rw[hP]at aE cT;have cm:P/B<=P:=Nat.div_le_self _ _;obtain⟨J,hJ⟩:∃J,P/B=J:=⟨_,rfl⟩;rw[hJ]at aE cT cm;have e0:(N:Int)*(m:Int)=(P:Int):=by rw[←hP,Int.natCast_mul]
   have e1:IntKind.i64.wrap ((N:Int)*(m:Int))=(P:Int):=by rw[e0];exact IntWalk.i64_in _ (by omega)
   have e2:¬(B:Int)=0:=by omega
   have e4:(P:Int).tdiv (B:Int)=(J:Int):=by rw[Int.tdiv_eq_ediv_of_nonneg (by omega),←Int.natCast_ediv,hJ]
   have e3:IntKind.i64.wrap ((P:Int).tdiv (B:Int))=(J:Int):=by rw[e4];exact IntWalk.i64_in _ (by omega)
   have e5:(P:Int)/(B:Int)=(J:Int):=by rw[←Int.natCast_ediv,hJ]
   have e6:wrap64 (J:Int)=(J:Int):=IntWalk.wrap64_in _ ⟨by omega,by omega⟩;have j1:(J:Int)<(m:Int):=Int.ofNat_lt.2 aE;have j0:(0:Int)<=(J:Int):=Int.natCast_nonneg J;clear R bk a9 bf hP hJ W;obtain rfl:=cj.1
   go_wp2_with (at_builtin;refine bP rfl _ _ rfl _ (H.1.alloc _) 0 A k c XS V _ (0,0) rfl rfl rfl (aG _ _) (by omega) ?_;intro g9 cap w9 S9 cf;have aN:=Hd S9;clear S9)
   go_roundw
   ·exact⟨k+1,_,_,by omega,rfl,by rw[U.1];go_num,by go_num,by rw[bw.1];exact aN.1⟩
   simp[intOf];omega
  have dz:(bt==0)=false:=by simp[R]
  have U:Hv (ioN ks (k+1)=N):=Hd<|by show _=_;rw[ao.1,if_neg R];rfl
  have HV:=Hd (bh.1 R);clear R
  go_wp2_with (at_builtin;refine bP rfl _ _ rfl _ (H.1.alloc _) 0 A k c XS (-1) _ (0,0) rfl rfl rfl (aG _ _) (by omega) ?_;intro g9 cap w9 S9 cf;have aN:=Hd S9;clear S9)
  go_roundw
  ·exact⟨k+1,_,_,by omega,rfl,by rw[U.1],by go_num,by rw[bw.1,HV.1];exact aN.1⟩
  simp[intOf];omega
 have z:k=j:=by omega
 have ak:=dF (by omega:j<=k);have hs:=H.1.sub (List.Sublist.cons_cons _ (List.Sublist.cons _ (List.nil_sublist _)));rw[z]at hs;have bo:ioN ks k=ioN ks j:=by rw[z]
 rw[bo,ai.1,z];clear H z bo hk;have H:=Hd hs;clear hs;generalize ioL ks TS B j=O at *;have aM:O.length=j:=by rw[aU.1.len,G.1]
 have ag:=Hd (wF HD.1 aU.1.fx be.1 8);have D:=Hd (aF H.1.bel aw.1);go_upto_region 22 with fail;obtain⟨x0,x1,x2,x3,lx⟩:=bA (D.1);go_wp2_with fail;refine(Ar d O cs A CA j c cn cc _ (H.1.ints 0 rfl) (HC.1.below u.1) HD.1 aU.1.fx be.1).mono ?_;rintro _ w5 ⟨WA,wc,rfl,S5⟩;have bp:=Hd (H.1.consT S5.bel (S5.tree 0 rfl));obtain⟨Z,bu⟩:∃Z,nT d O cs 8=Z:=⟨_,rfl⟩;rw[bu]at am bp ag;rw[aM]at ag;clear S5 bu x0 x1 x2 x3 lx H aM;go_wp2
 go_loopw[15] (fun kv wr=>∃(k:Nat) (P:List Int),k<=j/\kv=.int .i64 (k:Int)/\jP d ks O Z k=some P/\aD W9 wr [.cel (aZ Z) (.slice WA j wc),.cel (aI P) (.slice A j c)]) (fun kv _=>j-(intOf kv).toNat)
 ·exact⟨0,O,by omega,rfl,rfl,bp.1⟩
 obtain⟨k,P,hk,rfl,aK,hs⟩:=hrel;obtain⟨H,HF⟩:=hd2 hs aK;have u:=Hd (aA ae.1 hs.bel);have D:=Hd (aF hs.bel aw.1);clear hs aK;by_cases q:k<j
 ·have ak:=dT (by omega:k<j);have K:k<ks.length:=by rw[G.1];exact q
  obtain⟨kb,ko,I,hb,hc⟩:=HK.1.2 (by omega);have ck:=(u.1.cell (p:=⟨kb,ko+k,none⟩) hb).trans (hc k q);have lb:=aJ u.1 hb;have bJ:=a4.1 k q;have al:=Hd I;obtain⟨i0,i1⟩:=ib (by omega:k<j);obtain⟨gW,oW,bv,lW,cx,cy⟩:=(H.1.rd 0 rfl).pin (k:=k) (by rw[ag.1.len];exact q);have cg:=ag.1.bd (Z[k]?.getD aL.zero) (by rw[List.getElem?_eq_getElem (by rw[ag.1.len];exact q)];exact List.getElem_mem _);obtain⟨g1,bz,_,lg,cO,fO,Q⟩:=H.1.setI 1 rfl q;obtain⟨cd,b4,cD⟩:=hd3 bz bv Q
  have aQ:Hv (jP d ks O Z (k+1)=if 0<=P[k]?.getD 0 then some P else if je d (aW (ks[k]?.getD 0)) (Z[k]?.getD aL.zero).block (Z[k]?.getD aL.zero).pin P<0 then none else some (P.set k (je d (aW (ks[k]?.getD 0)) (Z[k]?.getD aL.zero).block (Z[k]?.getD aL.zero).pin P))):=Hd<|by
   show _=_;rw[jP,HF.1];rfl
  clear K hc I bv Q bz;obtain rfl:=al.1;obtain rfl:=cd.1;generalize ks[k]?.getD 0=kd at *;generalize Z[k]?.getD aL.zero=po at *;obtain⟨px,py⟩:=po;simp only at cx cy cg;generalize P[k]?.getD 0=x at *;by_cases hx:0<=x
  ·have dx:decide (x≥0)=true:=decide_eq_true hx;have b7:decide (0<=x)=true:=decide_eq_true hx;have ax:Hv (jP d ks O Z (k+1)=some P):=Hd<|by show _=_;rw[aQ.1,if_pos hx]
   clear hx;go_wp2;go_roundw
   ·exact⟨k+1,P,by omega,by go_num,ax.1,H.1⟩
   simp[intOf];omega
  have dx:decide (x≥0)=false:=decide_eq_false (by omega);have b7:decide (0<=x)=false:=decide_eq_false hx;obtain⟨T,hT⟩:∃T,je d (aW kd) px py P=T:=⟨_,rfl⟩;have ax:Hv (jP d ks O Z (k+1)=if T<0 then none else some (P.set k T)):=Hd<|by show _=_;rw[aQ.1,if_neg hx,←hT]
  have b3:Hv (∀v,Below wr.heap.size wr v→Calls Tryz.prog 163 #[.agg (dv d),.int .i64 (aW kd),.int .i64 px,.int .i64 py,.slice (some ⟨g1,0,none⟩) j c] v fun e w'=>e=.returned (.int .i64 T)/\Below v.heap.size v w'):=Hd<|fun v hv=>by
   have h:=wY d (aW kd) px py P _ j c v HD.1 (by omega) (by omega) (by omega) (by omega) ((H.1.ints 1 rfl).below hv) (by omega);rw[hT]at h;exact h
  have ad:=Hd (fun(v:World)=>gu kd v);generalize aW kd=bt at *;clear hT hx aQ;obtain rfl:=b4.1;go_upto_region 27 with fail;clear cO fO lg;have ap:Hv (∀w',Below wr.heap.size wr w'→(KD w' w.heap.size d (w'.cell? ⟨gW,oW+k*2,none⟩=some (.int .i64 px)/\w'.cell? ⟨gW,oW+k*2+1,none⟩=some (.int .i64 py)/\w'.cell? ⟨kb,ko+k,none⟩=some (.int .i64 kd)))):=Hd<|fun v hv=>⟨aC (k:=0) (aF hv D.1) rfl,aC (k:=1) (aF hv D.1) rfl,aC (k:=2) (aF hv D.1) rfl,aC (k:=3) (aF hv D.1) rfl,(hv.cell (p:=⟨gW,oW+k*2,none⟩) lW).trans cx,(hv.cell (p:=⟨gW,oW+k*2+1,none⟩) lW).trans cy,(hv.cell (p:=⟨kb,ko+k,none⟩) lb).trans ck⟩
  clear cx cy ck;obtain⟨x0,x1,x2,x3,cx,cy,ck⟩:=ap.1 _ (Below.refl _ _);have lx:=aH D.1;have hD:=(Below.refl wr.heap.size wr).drew
  go_cut[16] (fun v w'=>v=.int .i64 T/\Below wr.heap.size wr w')
  case first =>
   go_region_held3 (fun w'=>KD w' w.heap.size d (w'.cell? ⟨gW,oW+k*2,none⟩=some (.int .i64 px)/\w'.cell? ⟨gW,oW+k*2+1,none⟩=some (.int .i64 py)/\w'.cell? ⟨kb,ko+k,none⟩=some (.int .i64 kd)))
    (first|with_reducible exact ap.1 _ hD)
    ((first
     | (go_at_call 114;(with_reducible refine(ad.1 _).mono ?_);rintro _ _ ⟨rfl,rfl⟩)
     | (go_at_call 163;(with_reducible refine(b3.1 _ hD).mono ?_);rintro _ w5 ⟨rfl,b5⟩;replace hD:=aA hD b5;clear b5)))
   all_goals
    go_wp2;go_meet;exact⟨rfl,hD⟩
  obtain⟨rfl,aV⟩:=hcut;have bX:=Hd (H.1.below aV);have ce:=Hd (aA u.1 aV);clear aV x0 x1 x2 x3 cx cy ck lb lx hD lW;by_cases aq:T<0
  ·have dT:decide (T<0)=true:=decide_eq_true aq
   have aj:Hv (iniR d ks cs=none):=Hd<|by
    show _=_;rw[am.1];exact uy (k:=k+1) (by rw[ax.1,if_pos aq]) q
   go_wp2
   go_ret2
   exact .inr ⟨aj.1,⟨_,_,_,rfl⟩,aB ce.1 _⟩
  have dT:decide (T<0)=false:=decide_eq_false aq;have cb:Hv (jP d ks O Z (k+1)=some (P.set k T)):=Hd<|by show _=_;rw[ax.1,if_neg aq]
  obtain⟨g2,bx,_,lg,cO,fO,Q⟩:=bX.1.setI 1 rfl q;obtain rfl:g1=g2:=by injection bx with h;injection h
  have HU:=Hd (Q T);clear Q bx aq;go_wp2;go_roundw
  ·exact⟨k+1,P.set k T,by omega,by go_num,cb.1,HU.1⟩
  simp[intOf];omega
 have z:k=j:=by omega
 have ak:=dF (by omega:j<=k);have bB:Hv (iniR d ks cs=some P):=Hd<|by show _=_;rw[am.1,←z,HF.1]
 clear z;go_wp2
 go_ret2
 exact .inl ⟨P,_,_,bB.1,rfl,(H.1.owned 1 rfl).more ae.1.size,u.1⟩
theorem Fu(d:Dev)(ks pl:List Int)(cs:List Cn)(KA CA PA:Oh)(q kc cn cc pn pc:Nat)(sd:Int)(M:Nat)(w:World)(hK:bT w KA q ks)(hC:RdC w w.heap.size (bL cs) (.slice CA cn cc))(hP:bT w PA pn pl)(hf:dA d ks pl)(a9:dW (pn:Int) cs)(hM:M<=200) :
  Calls Tryz.prog 86 #[.agg (dv d),.slice KA q kc,.slice CA cn cc,.slice PA pn pc,.int .i64 sd,.int .i64 (M:Int)] w fun e w'=>∃A c,e=.returned (.slice A pn c)/\Own w.heap.size w' A pn c (qM d ks cs pl sd M)/\Below w.heap.size w w':=by
 have bq:=Hd (aB (Below.refl w.heap.size w) (.cells (dv d) 36));have cB:=Hd (aG w (.cells (dv d) 36));obtain⟨HK,HC,HP⟩:=hd3 hK hC hP;have ad:Hv (ks.length=q):=Hd<|hK.1
 have cW:q=pn:=by rw[←hK.1,←hf.same,hP.1]
 subst cW;have dG:q<=64:=by rw[←ad.1];exact hf.len
 obtain⟨HF,aE⟩:=hd2 hf a9;have aq:=qW hf a9;have dd:Hv (0<q→∀k,AnI d ks cs (mD d ks cs pl sd k)):=Hd<|fun h k=>vZ hf (by rw[ad.1];exact h) sd k
 have c4:Hv (qM d ks cs pl sd M=if ks.length=0 then pl else(mD d ks cs pl sd M).best):=Hd<|rfl
 have bY:mD d ks cs pl sd 0=⟨pl,ik d pl cs,pl,ik d pl cs,1200,sd⟩:=rfl;have br:=Hd bY;clear hK hC hP hf a9 bY;go_enter Tryz.func86,Tryz.ntmps86;go_upto_region 1 with fail;generalize w.alloc (.cells (dv d) 36)=W9 at *;obtain⟨x0,x1,x2,x3,lx⟩:=bA (cB.1);go_wp2_with fail;refine(sP d pl cs PA CA q pc cn cc _ (HP.1.below bq.1) (HC.1.below bq.1) HF.1.dev HF.1.tl aE.1).mono ?_;rintro _ w1 ⟨rfl,b1⟩;have bg:=Hd (aA bq.1 b1);have cw:=Hd (aF b1 cB.1);clear b1 x0 x1 x2 x3 lx;obtain⟨C0,aV⟩:∃C0,ik d pl cs=C0:=⟨_,rfl⟩;have eG:=Hd aV;rw[aV]at aq br
 (try rw[aV])
 obtain⟨er,ev⟩:=aq;have dc:decide (C0<0)=false:=decide_eq_false (by omega);clear aV;go_upto_region 2 with fail;obtain⟨x0,x1,x2,x3,lx⟩:=bA (cw.1);go_wp2_with fail;refine(wU d ks pl KA PA q kc q pc _ (HK.1.below bg.1) (HP.1.below bg.1)).mono ?_;rw[bZ HF.1];rintro _ w2 ⟨rfl,b2⟩;have a8:=Hd (aA bg.1 b2);have dj:=Hd (aF b2 cw.1);clear b2 x0 x1 x2 x3 lx;go_wp2_with fail;refine(bV (M:Int) 0 200 _).mono ?_;rw[aR.2 ⟨by omega,by omega⟩];rintro _ _ ⟨rfl,rfl⟩;go_upto_region 4 with fail;have e0:0+q=q:=Nat.zero_add _;have j:=(aD.nil (Below.refl w2.heap.size w2)).pushNew 3 1
 go_upto_region 5 with(at_builtin;refine eX rfl _ _ rfl _ j 0 _ 0 0 [] PA q pc pl rfl rfl rfl ((HP.1.below a8.1).below j.bel) (by omega) ?_;intro A0 c0 w3 S0 ek;have g:=Hd S0;clear S0)
 rw[List.nil_append,Nat.zero_add]at g;have cG:=Hd (g.1.owned 0 rfl);have a7:=g.1.bel;clear g j;have bj:=Hd (aA a8.1 a7);have db:=Hd (cG.1.more a8.1.size);have dp:=Hd (aF a7 dj.1);clear a7 cG;go_upto_region 6 with fail;have j:=(aD.nil (Below.refl w3.heap.size w3)).pushNew 3 1
 go_upto_region 7 with(at_builtin;refine eX rfl _ _ rfl _ j 0 _ 0 0 [] PA q pc pl rfl rfl rfl ((HP.1.below bj.1).below j.bel) (by omega) ?_;intro A1 c1 w4 S1 es;have g:=Hd S1;clear S1)
 rw[List.nil_append,Nat.zero_add]at g;have bU:=Hd (g.1.owned 0 rfl);have aK:=g.1.bel;clear g j;have cZ:=Hd (aA bj.1 aK);have dE:=Hd (bU.1.more bj.1.size);have da:=Hd (db.1.below aK);have dw:=Hd (aF aK dp.1);clear aK bU;go_wp2
 go_loopw[4,13,14,15,16,17,18] (fun sv cv bv lv nv hv iv wr=>∃(k:Nat) (a:AnS) (A B:Oh) (c c':Nat),k<=M/\sv=.int .i64 a.seed/\cv=.int .i64 a.cost/\nv=.slice A q c/\bv=.slice B q c'/\lv=.int .i64 a.least/\hv=.int .i64 a.heat/\iv=.int .i64 (k:Int)/\mD d ks cs pl sd k=a/\(q=0→k=0)/\Own w.heap.size wr A q c a.now/\Own w.heap.size wr B q c' a.best/\Below w4.heap.size w4 wr) (fun sv cv bv lv nv hv iv _=>M-(intOf iv).toNat)
 ·exact⟨0,_,A1,A0,c1,c0,by omega,rfl,rfl,rfl,rfl,rfl,rfl,rfl,br.1,fun _=>rfl,dE.1,da.1,Below.refl _ _⟩
 obtain⟨k,a,A,B,c,c',hk,rfl,rfl,rfl,rfl,rfl,rfl,rfl,ae,hz,b3,cl,aN⟩:=hrel;obtain⟨aX,cP,bn⟩:=hd3 ae b3 cl;have aw:=Hd (aA cZ.1 aN);have du:=Hd aN;have ah:=Hd (aF aN dw.1);clear ae b3 cl aN
 have aZ:q=0∨¬k<M→a.best=qM d ks cs pl sd M:=fun h=>by
  rw[c4.1,ad.1];by_cases h0:q=0
  ·rw[if_pos h0,←aX.1,hz h0,br.1]
  rw[if_neg h0,←aX.1,show k=M by omega]
 have a3:=Hd aZ;clear aZ;by_cases dy:k<M
 ·have dn:=dT (by omega:k<M);by_cases h0:q=0
  ·have dB:decide ((q:Int)>0)=false:=by simp;omega
   have dm:decide (0<q)=false:=by simp;omega
   have HV:=Hd (a3.1 (.inl h0));clear h0;go_wp2;go_ret;exact⟨_,_,rfl,by rw[←HV.1];exact bn.1,aw.1⟩
  have dB:decide ((q:Int)>0)=true:=by simp;omega
  have dm:decide (0<q)=true:=by simp;omega
  have I:=dd.1 (by omega) k;rw[aX.1]at I;have bH:=Hd I;have ai:Hv (mD d ks cs pl sd (k+1)=anG d ks cs a):=Hd<|by show _=_;rw[mD,aX.1]
  have aS:=C9 (ks:=ks) (by rw[ad.1];omega) a.seed;rw[ad.1]at aS;have ae:=IK I.now (by rw[ad.1];omega) a.seed;have a6:=Hd (DC I (by rw[ad.1];omega));have cx:Hv (anN d ks a=yJ a.now (anB ks a.seed) (anT d ks a.seed)):=Hd<|rfl
  have V:Hv (anT d ks a.seed=(fq d (aW (ks[anB ks a.seed]?.getD 0)))[(dR (dR a.seed)/256%((fq d (aW (ks[anB ks a.seed]?.getD 0))).length:Int)).toNat]?.getD 0):=Hd<|rfl
  have aq:=qW a6.1 aE.1;have hcc:=qW I.now aE.1;rw[←I.cost]at hcc;have hh:=I.heat;have aj:Hv (anA d ks cs a↔ik d (anN d ks a) cs<=a.cost∨10000*(ik d (anN d ks a) cs-a.cost)<=a.heat*anU a.seed):=Hd<|Iff.rfl
  have R:Hv (anU a.seed=dR (dR (dR a.seed))/256%100):=Hd<|rfl
  have aP:=Hd (JS (d:=d) (ks:=ks) (cs:=cs) (a:=a));have ch:=Hd (LD (d:=d) (ks:=ks) (cs:=cs) (a:=a));have af:Hv (∀N C,anP d ks cs a=(N,C)→C<a.least→anG d ks cs a=⟨N,C,N,C,a.heat*97/100,dR (dR (dR a.seed))⟩):=Hd<|fun N C h hl=>Ei h hl
  have Y:Hv (∀N C,anP d ks cs a=(N,C)→¬C<a.least→anG d ks cs a=⟨N,C,a.best,a.least,a.heat*97/100,dR (dR (dR a.seed))⟩):=Hd<|fun N C h hl=>Ej h hl
  have a1:=Hd I.now;clear I bH;generalize anG d ks cs a=G at *;generalize anP d ks cs a=PP at *;generalize anA d ks cs a=eA at *;obtain⟨u,bp⟩:∃u,ik d (anN d ks a) cs=u:=⟨_,rfl⟩;rw[bp]at aq aj aP;generalize anN d ks a=W at *;generalize anT d ks a.seed=TT at *;generalize anB ks a.seed=BB at *;generalize anU a.seed=U at *;obtain⟨now,cost,best,least,heat,s0⟩:=a;simp only at hcc hh aS V cx aj R af Y a1 aP ch;obtain⟨S1,bl⟩:∃S1,dR s0=S1:=⟨_,rfl⟩;obtain⟨S2,a5⟩:∃S2,dR S1=S2:=⟨_,rfl⟩;obtain⟨J,bk⟩:∃J,dR S2=J:=⟨_,rfl⟩;have cp:=qV s0;have ca:=qV S1;have cb:=qV S2;rw[bl]at aS ae V R af Y cp;rw[a5]at ae V R af Y ca;rw[bk]at R af Y cb;have cO:Hv (∀v:World,Calls Tryz.prog 165 #[.int .i64 s0] v fun e w'=>e=.returned (.int .i64 S1)/\v=w'):=Hd<|fun v=>by rw[←bl];exact nQ s0 v
  have ds:Hv (∀v:World,Calls Tryz.prog 165 #[.int .i64 S1] v fun e w'=>e=.returned (.int .i64 S2)/\v=w'):=Hd<|fun v=>by rw[←a5];exact nQ S1 v
  have dr:Hv (∀v:World,Calls Tryz.prog 165 #[.int .i64 S2] v fun e w'=>e=.returned (.int .i64 J)/\v=w'):=Hd<|fun v=>by rw[←bk];exact nQ S2 v
  obtain⟨aU,dt⟩:=aS;obtain⟨kb,ko,cF,b4,b6⟩:=HK.1.2 (by omega);have cy:Hv (∀v,Below w.heap.size w v→v.cell? ⟨kb,ko+BB,none⟩=some (.int .i64 (ks[BB]?.getD 0))):=Hd<|fun v hv=>(hv.cell (p:=⟨kb,ko+BB,none⟩) b4).trans (b6 BB dt)
  have cV:=Hd cF;obtain⟨kd,bu⟩:∃kd,ks[BB]?.getD 0=kd:=⟨_,rfl⟩;rw[bu]at ae V cy;have c2:=Hd bu;have cr:=Hd (fun(v:World)=>gu kd v);have cz:=Hd (fun(v:World)=>su d (aW kd) v);obtain⟨bh,aI,cS,cf⟩:=ae;obtain⟨bt,bc⟩:∃bt,aW kd=bt:=⟨_,rfl⟩;rw[bc]at cf V cz cr bh aI;have dH:Hv (aW (ks[BB]?.getD 0)=bt):=Hd<|by show _=_;rw[c2.1,bc]
  clear bu bc;have c6:=uG d bt;generalize fq d bt=TS at *;obtain⟨tn,bm⟩:∃tn,TS.length=tn:=⟨_,rfl⟩;rw[bm]at bh aI V c6;have cA:=Hd bm;obtain⟨JJ,bN⟩:∃JJ,(S2/256%(tn:Int)).toNat=JJ:=⟨_,rfl⟩;rw[bN]at aI V;have m0:=Int.emod_nonneg (S2/256) (b:=(tn:Int)) (by omega);have aQ:S2/256%(tn:Int)=(JJ:Int):=by omega
  clear bl a5 bk b6 cF bN bm m0;obtain rfl:=cV.1;obtain⟨cH,eg⟩:=cp;obtain⟨bM,d9⟩:=ca;obtain⟨bS,eb⟩:=cb;have f1:S1.tdiv 256=S1/256:=Int.tdiv_eq_ediv_of_nonneg cH;have f2:S2.tdiv 256=S2/256:=Int.tdiv_eq_ediv_of_nonneg bM;have f3:J.tdiv 256=J/256:=Int.tdiv_eq_ediv_of_nonneg bS;obtain⟨Q1,b0⟩:∃Q,S1/256=Q:=⟨_,rfl⟩;obtain⟨Q2,bR⟩:∃Q,S2/256=Q:=⟨_,rfl⟩;obtain⟨Q3,bE⟩:∃Q,J/256=Q:=⟨_,rfl⟩;have hq1:0<=Q1/\Q1<=8388608:=by omega
  have hq2:0<=Q2/\Q2<=8388608:=by omega
  have cC:0<=Q3/\Q3<=8388608:=by omega
  rw[b0]at f1 aU;rw[bR]at f2 aQ;rw[bE]at f3 R;have g1:Q1.tmod (q:Int)=(BB:Int):=by rw[aU];exact Int.tmod_eq_emod_of_nonneg hq1.1
  have g2:Q2.tmod (tn:Int)=(JJ:Int):=by rw[←aQ];exact Int.tmod_eq_emod_of_nonneg hq2.1
  have g3:Q3.tmod 100=U:=by rw[R.1];exact Int.tmod_eq_emod_of_nonneg cC.1
  have hu:0<=U/\U<=99:=by have h:=R.1;omega
  have k1:Q1%(q:Int)=(BB:Int):=aU.symm;have k2:Q2%(tn:Int)=(JJ:Int):=aQ;have k3:Q3%100=U:=R.1.symm;have l1:wrap64 Q1=Q1:=IntWalk.wrap64_in _ ⟨by omega,by omega⟩;have l2:wrap64 Q2=Q2:=IntWalk.wrap64_in _ ⟨by omega,by omega⟩;have l3:wrap64 Q3=Q3:=IntWalk.wrap64_in _ ⟨by omega,by omega⟩;have n1:¬(q:Int)=0:=by omega
  have n2:¬(tn:Int)=0:=by omega
  obtain⟨eH,eo,eF⟩:=hd3 b0 bR bE;clear aU aQ bh;obtain⟨df,dx⟩:=hu;obtain⟨dU,d8⟩:=hq1;obtain⟨dZ,dN⟩:=hq2;obtain⟨dO,dS⟩:=cC;have cg:=iB hh.1 hh.2 df dx;obtain⟨Z,hZ⟩:∃Z,heat*U=Z:=⟨_,rfl⟩;have wZ:IntKind.i64.wrap (heat*U)=Z:=by rw[hZ];exact IntWalk.i64_in _ (by omega)
  rw[hZ]at cg aj;obtain⟨dK,dM⟩:=cg;obtain⟨ei,dX⟩:=aq;obtain⟨d5,eh⟩:=hcc;obtain⟨ej,eI⟩:=hh;have el:=Hd hZ;clear hZ;have cQ:Hv (ik d W cs=u):=Hd<|bp
  clear bp;go_wp2_with fail;refine(cO.1 _).mono ?_;rintro _ _ ⟨rfl,rfl⟩;go_wp2_with fail;refine(ds.1 _).mono ?_;rintro _ _ ⟨rfl,rfl⟩;go_upto_region 14 with fail;have av:Hv (∀w',Below wr.heap.size wr w'→(KD w' w.heap.size d (w'.cell? ⟨kb,ko+BB,none⟩=some (.int .i64 kd)))):=Hd<|fun v hv=>⟨aC (k:=0) (aF hv ah.1) rfl,aC (k:=1) (aF hv ah.1) rfl,aC (k:=2) (aF hv ah.1) rfl,aC (k:=3) (aF hv ah.1) rfl,cy.1 v (aA aw.1 hv)⟩
  obtain⟨x0,x1,x2,x3,ck⟩:=av.1 _ (Below.refl _ _);have lx:=aH ah.1;have lk:=aJ aw.1 b4;obtain⟨ez,eJ⟩:=ib (by omega:BB<q);have hD:=(Below.refl wr.heap.size wr).drew
  go_cut[20] (fun v w'=>∃A c,v=.slice A tn c/\bT w' A tn TS/\Below wr.heap.size wr w')
  case first =>
   go_region_held3 (fun w'=>KD w' w.heap.size d (w'.cell? ⟨kb,ko+BB,none⟩=some (.int .i64 kd)))
    (first|with_reducible exact av.1 _ hD)
    ((first
     | (go_at_call 114;(with_reducible refine(cr.1 _).mono ?_);rintro _ _ ⟨rfl,rfl⟩)
     | (go_at_call 161;(with_reducible refine(cz.1 _).mono ?_);rintro _ w5 ⟨A5,n5,c5,rfl,o5,b5⟩;have O5:=Hd o5.ints;replace hD:=aA hD b5;clear b5 o5)))
   all_goals
    go_wp2;go_meet;exact⟨_,_,by rw[←cA.1,O5.1.1],by rw[←cA.1,O5.1.1];exact O5.1,hD⟩
  obtain⟨AT,cT,rfl,ce,am⟩:=hcut;have cU:=Hd ce;have bf:=Hd (aA aw.1 am);have co:=Hd (aA du.1 am);have a4:=Hd (cP.1.below am);have cu:=Hd (bn.1.below am);have cE:=Hd (aF am ah.1);obtain⟨W6,rfl⟩:∃y,y=wc:=⟨wc,rfl⟩;clear ce am x0 x1 x2 x3 ck lx lk hD;obtain⟨j0,j1⟩:=ib (by omega:JJ<tn);obtain⟨tb,eD,bK,dC,bG⟩:=cU.1.2 (by omega);have ct:=bG JJ aI;rw[←V.1]at ct;have cX:=Hd bK;clear bK bG;obtain rfl:=cX.1;go_wp2_with fail;refine(dr.1 _).mono ?_;rintro _ _ ⟨rfl,rfl⟩;clear ct dC;go_upto_region 17 with fail;obtain⟨x0,x1,x2,x3,lx⟩:=bA (cE.1);go_wp2_with fail;refine(DF d ks now BB TT (some ⟨kb,ko,none⟩) A q kc q c _ (HK.1.below bf.1) a4.1.ints a1.1 (by omega) cS (by rw[dH.1];exact cf)).mono ?_;rintro _ w7 ⟨AN,cN,rfl,o7,b7⟩;rw[←cx.1]at o7;have ci:=Hd (aA bf.1 b7);have bO:=Hd (aA co.1 b7);have bX:=Hd (o7.more bf.1.size);have cq:=Hd (a4.1.below b7);have bW:=Hd (cu.1.below b7);have c3:=Hd (aF b7 cE.1);clear b7 o7 x0 x1 x2 x3 lx;go_upto_region 18 with fail;obtain⟨x0,x1,x2,x3,lx⟩:=bA (c3.1);go_wp2_with fail;refine(sP d W cs AN CA q cN cn cc _ bX.1.ints (HC.1.below ci.1) a6.1.dev a6.1.tl aE.1).mono ?_;rw[cQ.1];rintro _ w8 ⟨rfl,b8⟩;have bd:=Hd (aA ci.1 b8);have D:=Hd (aA bO.1 b8);have H:=Hd (bX.1.below b8);have ar:=Hd (cq.1.below b8);have ax:=Hd (bW.1.below b8);clear b8 x0 x1 x2 x3 lx;have cd:heat*97/100=heat*97/100:=rfl;have p1:(heat*97).tdiv 100=heat*97/100:=Int.tdiv_eq_ediv_of_nonneg (by omega);have p2:wrap64 (heat*97/100)=heat*97/100:=IntWalk.wrap64_in _ ⟨by omega,by omega⟩;clear cd;by_cases ag:u<=cost
  ·have d1:decide (u<=cost)=true:=decide_eq_true ag;have K:=Hd (aP.1 (aj.1.2 (.inl ag)));clear ag;by_cases hl:u<least
   ·have z:Hv (mD d ks cs pl sd (k+1)=⟨W,u,W,u,heat*97/100,J⟩):=Hd<|by show _=_;rw[ai.1];exact af.1 _ _ K.1 hl
    have dl:decide (u<least)=true:=decide_eq_true hl;clear hl;go_upto_region 24 with fail;have j:=(aD.nil (Below.refl w8.heap.size w8)).pushNew 3 1
    go_upto_region 25 with(at_builtin;refine eX rfl _ _ rfl _ j 0 _ 0 0 [] AN q cN W rfl rfl rfl (H.1.ints.below j.bel) (by omega) ?_;intro A9 c9 w9 S9 cD;have g:=Hd S9;clear S9)
    rw[List.nil_append,Nat.zero_add]at g;have ay:=Hd ((g.1.owned 0 rfl).more bd.1.size);have b9:=g.1.bel;clear g j;go_wp2;go_roundw
    ·exact⟨k+1,⟨W,u,W,u,heat*97/100,J⟩,AN,A9,cN,c9,by omega,rfl,rfl,rfl,rfl,rfl,rfl,by go_num,z.1,fun h=>by omega,H.1.below b9,ay.1,aA D.1 b9⟩
    simp[intOf];omega
   have z:Hv (mD d ks cs pl sd (k+1)=⟨W,u,best,least,heat*97/100,J⟩):=Hd<|by show _=_;rw[ai.1];exact Y.1 _ _ K.1 (by omega)
   have dl:decide (u<least)=false:=decide_eq_false hl;clear hl;go_wp2;go_roundw
   ·exact⟨k+1,⟨W,u,best,least,heat*97/100,J⟩,AN,B,cN,c',by omega,rfl,rfl,rfl,rfl,rfl,rfl,by go_num,z.1,fun h=>by omega,H.1,ax.1,D.1⟩
   simp[intOf];omega
  have d1:decide (u<=cost)=false:=decide_eq_false ag;by_cases al:10000*(u-cost)<=Z
  ·have d2:decide (10000*(u-cost)<=Z)=true:=decide_eq_true al;have K:=Hd (aP.1 (aj.1.2 (.inr al)));clear ag al;by_cases hl:u<least
   ·have z:Hv (mD d ks cs pl sd (k+1)=⟨W,u,W,u,heat*97/100,J⟩):=Hd<|by show _=_;rw[ai.1];exact af.1 _ _ K.1 hl
    have dl:decide (u<least)=true:=decide_eq_true hl;clear hl;go_upto_region 24 with fail;have j:=(aD.nil (Below.refl w8.heap.size w8)).pushNew 3 1
    go_upto_region 25 with(at_builtin;refine eX rfl _ _ rfl _ j 0 _ 0 0 [] AN q cN W rfl rfl rfl (H.1.ints.below j.bel) (by omega) ?_;intro A9 c9 w9 S9 cD;have g:=Hd S9;clear S9)
    rw[List.nil_append,Nat.zero_add]at g;have ay:=Hd ((g.1.owned 0 rfl).more bd.1.size);have b9:=g.1.bel;clear g j;go_wp2;go_roundw
    ·exact⟨k+1,⟨W,u,W,u,heat*97/100,J⟩,AN,A9,cN,c9,by omega,rfl,rfl,rfl,rfl,rfl,rfl,by go_num,z.1,fun h=>by omega,H.1.below b9,ay.1,aA D.1 b9⟩
    simp[intOf];omega
   have z:Hv (mD d ks cs pl sd (k+1)=⟨W,u,best,least,heat*97/100,J⟩):=Hd<|by show _=_;rw[ai.1];exact Y.1 _ _ K.1 (by omega)
   have dl:decide (u<least)=false:=decide_eq_false hl;clear hl;go_wp2;go_roundw
   ·exact⟨k+1,⟨W,u,best,least,heat*97/100,J⟩,AN,B,cN,c',by omega,rfl,rfl,rfl,rfl,rfl,rfl,by go_num,z.1,fun h=>by omega,H.1,ax.1,D.1⟩
   simp[intOf];omega
  have d2:decide (10000*(u-cost)<=Z)=false:=decide_eq_false al;have K:=Hd (ch.1 (fun h=>by rcases aj.1.1 h with h|h;exact ag h;exact al h));clear ag al;by_cases hl:cost<least
  ·have z:Hv (mD d ks cs pl sd (k+1)=⟨now,cost,now,cost,heat*97/100,J⟩):=Hd<|by show _=_;rw[ai.1];exact af.1 _ _ K.1 hl
   have dl:decide (cost<least)=true:=decide_eq_true hl;clear hl;go_upto_region 24 with fail;have j:=(aD.nil (Below.refl w8.heap.size w8)).pushNew 3 1
   go_upto_region 25 with(at_builtin;refine eX rfl _ _ rfl _ j 0 _ 0 0 [] A q c now rfl rfl rfl (ar.1.ints.below j.bel) (by omega) ?_;intro A9 c9 w9 S9 cD;have g:=Hd S9;clear S9)
   rw[List.nil_append,Nat.zero_add]at g;have ay:=Hd ((g.1.owned 0 rfl).more bd.1.size);have b9:=g.1.bel;clear g j;go_wp2;go_roundw
   ·exact⟨k+1,⟨now,cost,now,cost,heat*97/100,J⟩,A,A9,c,c9,by omega,rfl,rfl,rfl,rfl,rfl,rfl,by go_num,z.1,fun h=>by omega,ar.1.below b9,ay.1,aA D.1 b9⟩
   simp[intOf];omega
  have z:Hv (mD d ks cs pl sd (k+1)=⟨now,cost,best,least,heat*97/100,J⟩):=Hd<|by show _=_;rw[ai.1];exact Y.1 _ _ K.1 (by omega)
  have dl:decide (cost<least)=false:=decide_eq_false hl;clear hl;go_wp2;go_roundw
  ·exact⟨k+1,⟨now,cost,best,least,heat*97/100,J⟩,A,B,c,c',by omega,rfl,rfl,rfl,rfl,rfl,rfl,by go_num,z.1,fun h=>by omega,ar.1,ax.1,D.1⟩
  simp[intOf];omega
 have dn:=dF (by omega:M<=k);have HV:=Hd (a3.1 (.inr dy));go_wp2;go_ret;exact⟨_,_,rfl,by rw[←HV.1];exact bn.1,aw.1⟩
theorem aD.fillNew{W w:World}{g:List Pc}(h:aD W w g)(j:Nat)(hj:g[j]?=some (.cels [] [])):aD W (w.alloc (.cells #[] 3)) (g.set j (.cel (aI []) (.slice (some ⟨w.heap.size,0,none⟩) 0 0))):=by
 have h1:=((aD.nil (Below.refl w.heap.size w)).pushNew 3 1).tree 0 rfl;exact h.fill j hj (aB (Below.refl _ _) _) h1
theorem aD.boxNew{W w:World}{g:List Pc}(h:aD W w g)(cs:Array Value)(t:TypeId)(j:Nat)(hj:(g++[Pc.blk w.heap.size cs t])[j]?=some (.cels [] [])):aD W ((w.alloc (.cells cs t)).alloc (.cells #[] 3)) ((g++[Pc.blk w.heap.size cs t]).set j (.cel (aI []) (.slice (some ⟨w.heap.size+1,0,none⟩) 0 0))):=by
 have h1:=(h.pushBlk cs t).fillNew j hj;rwa[World.size_alloc]at h1
theorem aD.newBox{W w:World}{g:List Pc}(h:aD W w g)(cs:Array Value)(t:TypeId)(j:Nat)(hj:g[j]?=some (.cels [] [])):aD W ((w.alloc (.cells #[] 3)).alloc (.cells cs t)) (g.set j (.cel (aI []) (.slice (some ⟨w.heap.size,0,none⟩) 0 0))++[Pc.blk (w.heap.size+1) cs t]):=by
 have h1:=(h.fillNew j hj).pushBlk cs t;rwa[World.size_alloc]at h1
theorem yP(l:aU)(SA LA OA:Oh)(sn sc ln lc on oc:Nat)(w:World)(hN:fA w l SA LA OA sn sc ln lc on oc)(hf:bJ l) :
  Calls Tryz.prog 88 #[ig l SA LA OA sn sc ln lc on oc] w fun e w'=>∃D I H sd ld G,e=.returned (ig l D I H sn sd ln ld on G)/\aD w w' [.cel (aY l.seqs) (.slice D sn sd),.cel (aj l.luts) (.slice I ln ld),.cel (aI l.outs) (.slice H on G)]:=by
 obtain⟨aK,au,aL⟩:=hN.lens;have bB:sn<=12:=by rw[←aK];exact hf.nseq
 have bt:ln<=400:=by rw[←au];exact hf.nlut
 have bu:on<=16:=by rw[←aL];exact hf.nout
 obtain⟨al,HN⟩:=hd2 au hN
 have a5:Hv (∀x∈l.seqs,x.ins.length<=1048576):=Hd<|fun x hx=>by
  obtain⟨i,hi,rfl⟩:=List.getElem_of_mem hx;have h:=(hf.seqs i hi).1;rw[List.getElem?_eq_getElem hi]at h
  rcases h with h|h
  ·have:=h.2.2;simp only[Option.getD_some]at this;omega
  have:=h.2.2;simp only[Option.getD_some]at this;omega
 have bd:Hv (∀x∈l.luts,x.ins.length<=1048576):=Hd<|fun x hx=>by
  obtain⟨i,hi,rfl⟩:=List.getElem_of_mem hx;have h:=(hf.luts i hi).1;rw[List.getElem?_eq_getElem hi]at h;simp only[Option.getD_some]at h;omega
 obtain⟨a4,aT,az,aE,aB⟩:=info_parts CY;have Y:=Hd (And.intro aT (And.intro az (And.intro aE aB)));clear az aE aB hN hf aK au aL;have aW:=Hd (fun(v:World) (hv:Below w.heap.size w v)=>yS l.seqs SA sn sc v (HN.1.below hv).sq (by omega) a5.1);have a8:Hv (∀v:World,Below w.heap.size w v→bT v OA on l.outs):=Hd<|fun v hv=>(HN.1.below hv).ou.ints
 have h0:=(((aD.refl w).pushBlk #[.int .i64 l.inputs,.slice SA sn sc,.slice LA ln lc,.slice OA on oc] 41).pushBlk #[.int .i64 0,.slice none 0 0,.slice none 0 0,.slice none 0 0] 41).holes;simp only[World.size_alloc]at h0;go_enter Tryz.func88,Tryz.ntmps88;go_upto_region 1 with fail;obtain⟨J,af⟩:∃g,w.heap.size=g:=⟨_,rfl⟩;obtain⟨gR,ah⟩:∃g,w.heap.size+1=g:=⟨_,rfl⟩;rw[ah]at h0
 (try rw[ah])
 rw[af]at h0
 (try rw[af])
 clear af ah;have q:=Hd h0;clear h0;generalize (w.alloc (.cells #[.int .i64 l.inputs,.slice SA sn sc,.slice LA ln lc,.slice OA on oc] 41)).alloc (.cells #[.int .i64 0,.slice none 0 0,.slice none 0 0,.slice none 0 0] 41)=w0 at *;obtain⟨n0,n1,-,n3,nl⟩:=bA (q.1.blk 2 rfl).1;have u:Hv (∀(w':World) (ps:List Pc),aD w w' ps→ps[2]?=some (.blk J #[.int .i64 l.inputs,.slice SA sn sc,.slice LA ln lc,.slice OA on oc] 41)→w'.cell? ⟨J,0,none⟩=some (.int .i64 l.inputs)/\w'.cell? ⟨J,1,none⟩=some (.slice SA sn sc)/\w'.cell? ⟨J,3,none⟩=some (.slice OA on oc)):=Hd<|fun v ps h h1=>⟨aC (k:=0) (h.blk 2 h1).1 rfl,aC (k:=1) (h.blk 2 h1).1 rfl,aC (k:=3) (h.blk 2 h1).1 rfl⟩
 have j:=Hd q.1.drew
 go_cut[3] (fun pv w'=>∃gO D sd H G,pv=.pointer (some ⟨gO,0,none⟩)/\aD w w' [.cel (aY l.seqs) (.slice D sn sd),.cel (aI l.outs) (.slice H on G),.blk J #[.int .i64 l.inputs,.slice SA sn sc,.slice LA ln lc,.slice OA on oc] 41,.blk gR #[.int .i64 0,.slice none 0 0,.slice none 0 0,.slice none 0 0] 41,.blk gO #[.int .i64 l.inputs,.slice D sn sd,.slice none 0 0,.slice H on G] 41])
 case first =>
  go_region_held3 (fun w'=>w'.cell? ⟨J,0,none⟩=some (.int .i64 l.inputs)/\w'.cell? ⟨J,1,none⟩=some (.slice SA sn sc)/\w'.cell? ⟨J,3,none⟩=some (.slice OA on oc))
   (first|with_reducible exact u.1 _ _ j.1 rfl|with_reducible exact u.1 _ _ (q.1.pushBlk #[.int .i64 0,.slice none 0 0,.slice none 0 0,.slice none 0 0] 41).drew rfl|with_reducible exact u.1 _ _ (q.1.fillNew 1 rfl).drew rfl|with_reducible exact u.1 _ _ (q.1.newBox #[.int .i64 0,.slice none 0 0,.slice none 0 0,.slice none 0 0] 41 1 rfl).drew rfl|with_reducible exact u.1 _ _ (q.1.boxNew #[.int .i64 0,.slice none 0 0,.slice none 0 0,.slice none 0 0] 41 1 rfl).drew rfl|with_reducible exact u.1 _ _ (j.1.pushBlk #[.int .i64 0,.slice none 0 0,.slice none 0 0,.slice none 0 0] 41) rfl|with_reducible exact u.1 _ _ (j.1.fillNew 1 rfl) rfl|with_reducible exact u.1 _ _ (j.1.newBox #[.int .i64 0,.slice none 0 0,.slice none 0 0,.slice none 0 0] 41 1 rfl) rfl|with_reducible exact u.1 _ _ (j.1.boxNew #[.int .i64 0,.slice none 0 0,.slice none 0 0,.slice none 0 0] 41 1 rfl) rfl|exact u.1 _ _ (j.1.alloc _) rfl|exact u.1 _ _ ((((j.1.put 4 rfl 0 _).put 4 rfl 1 _).put 4 rfl 2 _).put 4 rfl 3 _) rfl)
   ((first
   | (go_at_call 171;(first|with_reducible refine syn j.1 ?_|with_reducible refine syn (q.1.pushBlk #[.int .i64 0,.slice none 0 0,.slice none 0 0,.slice none 0 0] 41).drew ?_|with_reducible refine syn (q.1.fillNew 1 rfl).drew ?_|with_reducible refine syn (q.1.newBox #[.int .i64 0,.slice none 0 0,.slice none 0 0,.slice none 0 0] 41 1 rfl).drew ?_|with_reducible refine syn (q.1.boxNew #[.int .i64 0,.slice none 0 0,.slice none 0 0,.slice none 0 0] 41 1 rfl).drew ?_|with_reducible refine syn (j.1.pushBlk #[.int .i64 0,.slice none 0 0,.slice none 0 0,.slice none 0 0] 41) ?_|with_reducible refine syn (j.1.fillNew 1 rfl) ?_|with_reducible refine syn (j.1.newBox #[.int .i64 0,.slice none 0 0,.slice none 0 0,.slice none 0 0] 41 1 rfl) ?_|with_reducible refine syn (j.1.boxNew #[.int .i64 0,.slice none 0 0,.slice none 0 0,.slice none 0 0] 41 1 rfl) ?_);intro hS;replace j:=Hd hS;clear hS;(refine(aW.1 _ j.1.bel).mono ?_);rintro _ v5 ⟨D,sd,rfl,S5⟩;replace j:=Hd (j.1.fill 0 rfl S5.bel (S5.tree 0 rfl));(try(have hX:=j.1;simp only[World.size_alloc]at hX;replace j:=Hd hX;clear hX));(try obtain⟨r0,r1,r2,r3,rf,lr⟩:=Nc (j.1.blk 4 rfl).1);clear S5)
   | ((first|with_reducible refine EP j.1 ?_|with_reducible refine EP (q.1.pushBlk #[.int .i64 0,.slice none 0 0,.slice none 0 0,.slice none 0 0] 41).drew ?_|with_reducible refine EP (q.1.fillNew 1 rfl).drew ?_|with_reducible refine EP (q.1.newBox #[.int .i64 0,.slice none 0 0,.slice none 0 0,.slice none 0 0] 41 1 rfl).drew ?_|with_reducible refine EP (q.1.boxNew #[.int .i64 0,.slice none 0 0,.slice none 0 0,.slice none 0 0] 41 1 rfl).drew ?_|with_reducible refine EP (j.1.pushBlk #[.int .i64 0,.slice none 0 0,.slice none 0 0,.slice none 0 0] 41) ?_|with_reducible refine EP (j.1.fillNew 1 rfl) ?_|with_reducible refine EP (j.1.newBox #[.int .i64 0,.slice none 0 0,.slice none 0 0,.slice none 0 0] 41 1 rfl) ?_|with_reducible refine EP (j.1.boxNew #[.int .i64 0,.slice none 0 0,.slice none 0 0,.slice none 0 0] 41 1 rfl) ?_);intro hS;replace j:=Hd hS;clear hS;refine nk rfl _ _ (by rfl) _ j.1 1 _ 0 0 [] OA on oc l.outs rfl (by rfl) (by rfl) (a8.1 _ j.1.bel) (by omega) ?_;intro H G w6 S6 ar;rw[Nat.zero_add,List.nil_append]at S6;(try rw[Nat.zero_add]);replace j:=Hd S6;(try(have hX:=j.1;simp only[World.size_alloc]at hX;replace j:=Hd hX;clear hX));(try obtain⟨r0,r1,r2,r3,rf,lr⟩:=Nc (j.1.blk 4 rfl).1);clear S6 ar)))
  all_goals
   go_wp2;go_meet
   first
    | exact⟨_,_,_,_,_,rfl,(((j.1.put 4 rfl 0 _).put 4 rfl 1 _).put 4 rfl 2 _).put 4 rfl 3 _⟩
    | exact⟨_,_,_,_,_,rfl,j.1.pushBlk _ _⟩
 obtain⟨gO,D,sd,H,G,rfl,aP⟩:=hcut;have aZ:=Hd (aP.pushNil 96 2);clear aP n0 n1 n3 j u q;go_wp2
 go_loopw[4] (fun iv wr=>∃(k:Nat) (I:Oh) (V:Nat),k<=ln/\iv=.int .i64 (k:Int)/\aD w wr [.cel (aY l.seqs) (.slice D sn sd),.cel (aI l.outs) (.slice H on G),.blk J #[.int .i64 l.inputs,.slice SA sn sc,.slice LA ln lc,.slice OA on oc] 41,.blk gR #[.int .i64 0,.slice none 0 0,.slice none 0 0,.slice none 0 0] 41,.blk gO #[.int .i64 l.inputs,.slice D sn sd,.slice I k V,.slice H on G] 41,.cel (aj (l.luts.take k)) (.slice I k V)]) (fun iv _=>ln-(intOf iv).toNat)
 ·exact⟨0,none,0,by omega,rfl,aZ.1⟩
 obtain⟨k,I,V,hk,rfl,hs⟩:=hrel;have HS:=Hd hs;clear hs;by_cases a3:k<ln
 ·have a1:decide ((k:Int)<(ln:Int))=true:=decide_eq_true (by omega);have R:k<l.luts.length:=by rw[al.1];exact a3
  obtain⟨Z,so,IA,im,ic,hA,ap,d0,d1,rI⟩:=HN.1.lt.lut' (k:=k) R;have a6:=Hd (yu Lt.zero R);have HA:=Hd hA;have av:(l.luts[k]?.getD Lt.zero).ins.length<=1048576:=by rw[List.getElem?_eq_getElem R];exact bd.1 _ (List.getElem_mem R)
  generalize l.luts[k]?.getD Lt.zero=x at *;obtain⟨ins,mk⟩:=x;simp only at d0 d1 rI av;have HI:Hv (∀v:World,Below w.heap.size w v→bT v IA im ins):=Hd<|fun v hv=>(rI.below hv).ints
  have bq:im<=1048576:=by rw[←rI.ints.1];exact av
  obtain⟨k0,k1⟩:=ib (by omega:k<ln);clear hA rI av R;obtain rfl:=HA.1;obtain⟨-,-,n2,nl⟩:=j6 (HS.1.blk 2 rfl).1;have U:Hv (∀(v:World) (ps:List Pc),aD w v ps→ps[2]?=some (.blk J #[.int .i64 l.inputs,.slice SA sn sc,.slice (some ⟨Z,so,none⟩) ln lc,.slice OA on oc] 41)→ps[4]?=some (.blk gO #[.int .i64 l.inputs,.slice D sn sd,.slice I k V,.slice H on G] 41)→(v.cell? ⟨Z,so+k*2,none⟩=some (.slice IA im ic)/\v.cell? ⟨Z,so+k*2+1,none⟩=some (.int .i64 mk)/\v.cell? ⟨J,2,none⟩=some (.slice (some ⟨Z,so,none⟩) ln lc)/\v.cell? ⟨gO,2,none⟩=some (.slice I k V))):=Hd<|fun v ps h h2 h4=>⟨(h.bel.cell (p:=⟨Z,so+k*2,none⟩) ap).trans d0,(h.bel.cell (p:=⟨Z,so+k*2+1,none⟩) ap).trans d1,aC (k:=2) (h.blk 2 h2).1 rfl,aC (k:=2) (h.blk 4 h4).1 rfl⟩
  have bm:=aJ HS.1.bel ap;clear d0 d1;have j:=Hd HS.1.drew;go_upto_region 5 with fail;refine wp_region_noPanic ?_;refine nG 20 (fun w'=>w'.cell? ⟨Z,so+k*2,none⟩=some (.slice IA im ic)/\w'.cell? ⟨Z,so+k*2+1,none⟩=some (.int .i64 mk)/\w'.cell? ⟨J,2,none⟩=some (.slice (some ⟨Z,so,none⟩) ln lc)/\w'.cell? ⟨gO,2,none⟩=some (.slice I k V)) (U.1 _ _ j.1 rfl rfl) (fun z B=>?_);refine onT z 0 opA B ?_;refine onT z 1 (opB opA) B ?_;refine onT z 3 (opB (opB (opB opA))) B ?_;refine onT z 4 (opC opA) B ?_;refine onT z 5 (opC (opB opA)) B ?_;refine onT z 6 (opC (opB (opB opA))) B ?_;refine onT z 7 (opC (opB (opB (opB opA)))) B ?_;refine onT z 8 (opC (opC opA)) B ?_;refine onT z 10 (opC (opC (opB (opB opA)))) B ?_;refine onT z 11 (opC (opC (opB (opB (opB opA))))) B ?_;refine onT z 12 (opC (opC (opC opA))) B ?_;refine onT z 13 (opC (opC (opC (opB opA)))) B ?_;refine onT z 14 (opC (opC (opC (opB (opB opA))))) B ?_;refine onT z 15 (opC (opC (opC (opB (opB (opB opA)))))) B ?_;have HA:=Hd (j.1.pushNew 3 1);refine sV z 2 (opB (opB opA)) (fun K W=>?_)
  go_simp
  refine W.out _ _ (U.1 _ _ HA.1 rfl rfl) (fun B=>?_);clear W K
  try simp only[Act.put,List.setIfInBounds_toArray,List.set_cons_zero,List.set_cons_succ]
  refine sV z 9 (opC (opC (opB opA))) (fun K W=>?_);refine nk rfl _ _ (by rfl) _ HA.1 6 _ 0 0 [] IA im ic ins rfl (by rfl) (by rfl) (HI.1 _ HA.1.bel) (by omega) ?_;intro IB id w6 S6 ar;rw[Nat.zero_add,List.nil_append]at S6
  (try rw[Nat.zero_add])
  have aF:=Hd S6;clear S6 ar;refine W.out _ _ (U.1 _ _ aF.1 rfl rfl) (fun B=>?_);clear W K
  try simp only[Act.put,List.setIfInBounds_toArray,List.set_cons_zero,List.set_cons_succ]
  refine onT z 16 (opD opA) B ?_;have ax:=Hd (aF.1.alloc (.cells #[.slice IB im id,.int .i64 mk] 96));refine sV z 17 (opD (opB opA)) (fun K W=>?_)
  go_simp
  refine W.out _ _ (U.1 _ _ ax.1 rfl rfl) (fun B=>?_);clear W K
  try simp only[Act.put,List.setIfInBounds_toArray,List.set_cons_zero,List.set_cons_succ]
  refine sV z 18 (opD (opB (opB opA))) (fun K W=>?_);refine iL rfl _ _ 39 96 (by rfl) a4 _ 2 32 Tryz.underlying39 Y.1.1 Y.1.2.1 Y.1.2.2.1 Y.1.2.2.2 rfl (by decide) (by decide) _ (ax.1.toLt 6 mk rfl) 5 6 (by decide) k V _ I ((l.luts.take k).flatMap Lt.cells) _ #[.slice IB im id,.int .i64 mk] _ rfl rfl (by rfl) (by rfl) (aG _ _) rfl (by omega) ?_;intro g9 cap w9 S9 a2;have Q:=Hd S9;clear S9 a2;refine W.out _ _ (U.1 _ _ Q.1 rfl rfl) (fun B=>?_);clear W K
  try simp only[Act.put,List.setIfInBounds_toArray,List.set_cons_zero,List.set_cons_succ]
  have c8:=aC (k:=2) (Q.1.blk 4 rfl).1 rfl;have f8:=aN (Q.1.blk 4 rfl).1 2;have q8:=aH (Q.1.blk 4 rfl).1;refine onT z 19 (opD (opB (opB (opB opA)))) B ?_;refine FL z 20 (opD (opC opA)) ?_;go_wp2_with fail;refine NoPanic.normal ?_;go_wp2;go_roundw
  ·exact⟨k+1,_,_,by omega,by go_num,by rw[a6.1,He];exact(Q.1.put 4 rfl 2 _).sub (List.sublist_append_left [_,_,_,_,_,_] [_])⟩
  simp[intOf];omega
 have aS:k=ln:=by omega
 have a1:=dF (by omega:ln<=k);have h9:=HS.1;rw[aS,←al.1,List.take_of_length_le (Nat.le_refl _),al.1]at h9;obtain⟨-,-,n2,nl⟩:=j6 (HS.1.blk 2 rfl).1;clear HS;obtain⟨c0,c1,c2,c3,lo⟩:=bA (h9.blk 4 rfl).1;obtain⟨e0,e1,e2,e3⟩:=cs4 (h9.blk 3 rfl).1;have y2:=fun k=>aN (h9.blk 3 rfl).1 k;have lr:=aH (h9.blk 3 rfl).1;have HP:=Hd ((((h9.put 3 rfl 0 (.int .i64 l.inputs)).put 3 rfl 1 (.slice D sn sd)).put 3 rfl 2 (.slice I ln V)).put 3 rfl 3 (.slice H on G));clear h9;go_wp2_with fail;clear c0 c1 c2 c3 lo e0 e1 e2 e3 y2 lr;generalize (((wr.setCell ⟨gR,0,none⟩ (.int .i64 l.inputs)).setCell ⟨gR,1,none⟩ (.slice D sn sd)).setCell ⟨gR,2,none⟩ (.slice I ln V)).setCell ⟨gR,3,none⟩ (.slice H on G)=WF at *;have hb:WF.heap[gR]?=some (.cells #[.int .i64 l.inputs,.slice D sn sd,.slice I ln V,.slice H on G] 41 (0,0)):=(HP.1.blk 3 rfl).1;exact bodyPost_ret (v:=ig l D I H sn sd ln V on G) (kL Tryz.results88 rfl hb Tryz.underlying41 (by kernel_rfl)) rfl ⟨_,_,_,_,_,_,rfl,((HP.1.sub (qs:=[_,_,_]) (.cons_cons _ (.cons_cons _ (.cons _ (.cons _ (.cons _ (List.Sublist.refl _))))))).perm (.cons _ (.swap _ _ _)))⟩
theorem zZ(l:aU)(d:Dev)(u mv:Int)(SA LA OA:Oh)(sn sc ln lc on oc:Nat)(w:World)(h:fA w l SA LA OA sn sc ln lc on oc) :
  Calls Tryz.prog 25 #[ig l SA LA OA sn sc ln lc on oc,.agg (dv d),.int .i64 u,.int .i64 mv] w fun e w'=>yw w w' e (impD l d u mv).1 (impD l d u mv).2:=by
 have HN:=Hd h;have h0:=(((aD.refl w).pushBlk #[.int .i64 l.inputs,.slice SA sn sc,.slice LA ln lc,.slice OA on oc] 41).pushBlk (dv d) 36).pushBlk #[.int .i64 0,.slice none 0 0,.slice none 0 0,.slice none 0 0,.slice none 0 0,.slice none 0 0,.slice none 0 0,.slice none 0 0] 46;simp only[World.size_alloc]at h0;clear h;go_enter Tryz.func25,Tryz.ntmps25;go_upto_region 1 with fail;obtain⟨gN,Q⟩:∃g,w.heap.size=g:=⟨_,rfl⟩;obtain⟨gD,R⟩:∃g,gN+1=g:=⟨_,rfl⟩;obtain⟨gL,U⟩:∃g,gD+1=g:=⟨_,rfl⟩;rw[Q,R,U]at h0
 (try rw[Q])
 (try rw[R])
 (try rw[U])
 clear Q R U;have j:=Hd h0;clear h0;generalize ((w.alloc (.cells #[.int .i64 l.inputs,.slice SA sn sc,.slice LA ln lc,.slice OA on oc] 41)).alloc (.cells (dv d) 36)).alloc (.cells #[.int .i64 0,.slice none 0 0,.slice none 0 0,.slice none 0 0,.slice none 0 0,.slice none 0 0,.slice none 0 0,.slice none 0 0] 46)=w0 at *;obtain⟨J,n1,n2,n3,K⟩:=bA (j.1.blk 0 rfl).1;by_cases hf:bJ l;rotate_left
 ·have q:=Hd (qp (d:=d) (sd:=u) (mv:=mv) (.inl hf));have aF:=Hd hf;clear hf;go_wp2_with fail;refine(kI l SA LA OA sn sc ln lc on oc _ (HN.1.below j.1.bel)).mono ?_;rw[dU aF.1];rintro _ w1 ⟨rfl,b1⟩;replace j:=Hd (j.1.below b1);clear b1 J n1 n2 n3 K;obtain⟨e0,e1,e2,e3,e4,e5,e6,e7,y2,lr⟩:=pz (j.1.blk 2 rfl).1;have z:=Hd (sM j.1 rfl);go_wp2_with fail;rw[q.1];exact bodyPost_ret (v := .tuple #[.agg zL,.int .i64 0]) (dE Tryz.results25 rfl z.1.1 Tryz.underlying46 (by kernel_rfl)) rfl ⟨zR,rfl,aD.lay0 z.1.2⟩
 have I:=Hd hf;obtain⟨aJ,aP,aK⟩:=HN.1.lens;clear hf aJ aP aK;go_wp2_with fail;refine(kI l SA LA OA sn sc ln lc on oc _ (HN.1.below j.1.bel)).mono ?_;rw[bZ I.1];rintro _ w1 ⟨rfl,b1⟩;replace j:=Hd (j.1.below b1);clear b1 J n1 n2 n3 K;obtain⟨H,D,d2,d3,G⟩:=bA (j.1.blk 1 rfl).1
 cases hd:bQ d with
 | false =>
  have q:=Hd (qp (l:=l) (sd:=u) (mv:=mv) (.inr (.inl hd)));have W:=Hd (fun v=>(by have h:=dw d v;rwa[hd]at h:Calls Tryz.prog 82 #[.agg (dv d)] v fun e w'=>e=.returned (.bool false)/\Below v.heap.size v w'));clear hd;go_wp2_with fail;refine(W.1 _).mono ?_;rintro _ w2 ⟨rfl,b2⟩;replace j:=Hd (j.1.below b2);clear b2 H D d2 d3 G;obtain⟨e0,e1,e2,e3,e4,e5,e6,e7,y2,lr⟩:=pz (j.1.blk 2 rfl).1;have z:=Hd (sM j.1 rfl);go_wp2_with fail;rw[q.1]
  exact bodyPost_ret (v := .tuple #[.agg zL,.int .i64 0]) (dE Tryz.results25 rfl z.1.1 Tryz.underlying46 (by kernel_rfl)) rfl ⟨zR,rfl,aD.lay0 z.1.2⟩
 | true =>
  have HD:=Hd hd;have W:=Hd (fun v=>(by have h:=dw d v;rwa[hd]at h:Calls Tryz.prog 82 #[.agg (dv d)] v fun e w'=>e=.returned (.bool true)/\Below v.heap.size v w'));clear hd;go_wp2_with fail;refine(W.1 _).mono ?_;rintro _ w2 ⟨rfl,b2⟩;replace j:=Hd (j.1.below b2);clear b2 H D d2 d3 G
  cases hm:inR mv 0 200 with
  | false =>
   have q:=Hd (qp (l:=l) (d:=d) (sd:=u) (.inr (.inr hm)));have Y:=Hd (fun v=>(by have h:=bV mv 0 200 v;rwa[hm]at h:Calls Tryz.prog 83 #[.int .i64 mv,.int .i64 0,.int .i64 200] v fun e w'=>e=.returned (.bool false)/\v=w'));clear hm;go_wp2_with fail;refine(Y.1 _).mono ?_;rintro _ _ ⟨rfl,rfl⟩;obtain⟨e0,e1,e2,e3,e4,e5,e6,e7,y2,lr⟩:=pz (j.1.blk 2 rfl).1;have z:=Hd (sM j.1 rfl);go_wp2_with fail;rw[q.1]
   exact bodyPost_ret (v := .tuple #[.agg zL,.int .i64 0]) (dE Tryz.results25 rfl z.1.1 Tryz.underlying46 (by kernel_rfl)) rfl ⟨zR,rfl,aD.lay0 z.1.2⟩
  | true =>
   have Y:=Hd (fun v=>(by have h:=bV mv 0 200 v;rwa[hm]at h:Calls Tryz.prog 83 #[.int .i64 mv,.int .i64 0,.int .i64 200] v fun e w'=>e=.returned (.bool true)/\v=w'));have HM:=Hd hm;obtain⟨am,aL⟩:=aR.1 hm;obtain⟨M,rfl⟩:∃M:Nat,mv=(M:Int):=⟨mv.toNat,(Int.toNat_of_nonneg am).symm⟩;have hM:M<=200:=by omega
   have aE:Hv (∀k∈kdD l,0<=k/\k<=3):=Hd<|fun k hk=>by
    obtain⟨b,hb,rfl⟩:=List.mem_map.1 hk;exact(Ac hb).1
   clear hm am aL;obtain⟨J,n1,n2,n3,K⟩:=bA (j.1.blk 0 rfl).1;go_wp2_with fail;refine(Y.1 _).mono ?_;rintro _ _ ⟨rfl,rfl⟩;go_wp2_with fail;refine(KQ l SA LA OA sn sc ln lc on oc _ (HN.1.below j.1.bel) I.1).mono ?_;rintro _ w3 ⟨BA,bn,bc,rfl,S3⟩;replace j:=Hd (j.1.join S3);clear S3 J n1 n2 n3 K;have V:=(j.1.rd 3 rfl).blkN;have a2:bn<=64:=by rw[←V];exact uS l
   have aI:=Hd V;clear V
   cases hp:(fM l).2 with
   | false =>
    have q:=Hd (Cf (sd:=u) I.1 HD.1 HM.1 hp);clear hp;obtain⟨e0,e1,e2,e3,e4,e5,e6,e7,y2,lr⟩:=pz (j.1.blk 2 rfl).1;have z:=Hd (sM j.1 rfl);go_wp2_with fail;rw[q.1]
    exact bodyPost_ret (v := .tuple #[.agg zL,.int .i64 4]) (dE Tryz.results25 rfl z.1.1 Tryz.underlying46 (by kernel_rfl)) rfl ⟨zR,rfl,aD.lay0 z.1.2⟩
   | true =>
    have z:=Hd hp;have aS:=Hd (uR I.1 hp);have aw:Hv (∀c∈csD l,c.sinks.length<=1048576):=Hd<|fun c hc=>by have:=xY I.1 hp c hc;omega
    clear hp;obtain⟨J,n1,n2,n3,K⟩:=bA (j.1.blk 0 rfl).1;go_wp2_with fail;refine(Db l SA LA OA sn sc ln lc on oc (fM l).1 BA bn bc _ (HN.1.below j.1.bel) (j.1.rd 3 rfl) aS.1).mono ?_;rintro _ w4 ⟨CA,cn,cc,rfl,o4,b4⟩;replace j:=Hd (j.1.pushT b4 o4);have aq:kR l (fM l).1=csD l:=rfl;rw[aq]at j;clear o4 b4 J n1 n2 n3 K aq;go_wp2_with fail;refine(EK (fM l).1 BA bn bc _ (j.1.rd 3 rfl) (by omega)).mono ?_;rintro _ w5 ⟨KA,kc,rfl,o5,b5⟩;replace j:=Hd (j.1.pushOwn b5 o5);have ap:(fM l).1.map Blk.kind=kdD l:=rfl;rw[ap]at j;have ax:(kdD l).length=bn:=by rw[←aI.1];exact List.length_map _
    have aN:=Hd ax;clear o5 b5 ap ax;obtain⟨H,D,d2,d3,G⟩:=bA (j.1.blk 1 rfl).1;go_wp2_with fail;refine(wB d (kdD l) (csD l) KA CA bn kc cn cc _ (j.1.ints 5 rfl) (j.1.rd 4 rfl) HD.1 aE.1 aw.1 (by omega)).mono ?_;rintro _ w6 (⟨p,PA,pc,hi,rfl,o6,b6⟩|⟨hi,⟨PA,pn,pc,rfl⟩,b6⟩);rotate_left
    ·have q:=Hd (Ae (sd:=u) I.1 HD.1 HM.1 z.1 hi);replace j:=Hd (j.1.below b6);clear hi b6 H D d2 d3 G;obtain⟨e0,e1,e2,e3,e4,e5,e6,e7,y2,lr⟩:=pz (j.1.blk 2 rfl).1;have z:=Hd (sM j.1 rfl);go_wp2_with fail;rw[q.1];exact bodyPost_ret (v := .tuple #[.agg zL,.int .i64 5]) (dE Tryz.results25 rfl z.1.1 Tryz.underlying46 (by kernel_rfl)) rfl ⟨zR,rfl,aD.lay0 z.1.2⟩
    have HI:=Hd hi;have B:=zK HD.1 hi;have Z:=B.1;rw[aN.1]at Z;obtain⟨aC,aG⟩:=hd2 Z B.2;replace j:=Hd (j.1.pushOwn b6 o6);clear hi B Z o6 b6 H D d2 d3 G;obtain⟨H,D,d2,d3,G⟩:=bA (j.1.blk 1 rfl).1;go_wp2_with fail;refine(Fu d (kdD l) p (csD l) KA CA PA bn kc cn cc bn pc u M _ (j.1.ints 5 rfl) (j.1.rd 4 rfl) (j.1.ints 6 rfl) aG.1 aC.1 hM).mono ?_;rintro _ w7 ⟨QA,qc,rfl,o7,b7⟩;replace j:=Hd (j.1.pushOwn b7 o7);clear o7 b7 H D d2 d3 G;obtain⟨H,D,d2,d3,G⟩:=bA (j.1.blk 1 rfl).1;go_wp2_with fail;refine(Ao d (qM d (kdD l) (csD l) p u M) (csD l) QA CA bn qc cn cc _ (j.1.ints 7 rfl) (j.1.rd 4 rfl) (by omega) aw.1).mono ?_;rintro _ w8 (⟨rs,RA,rc,hr,rfl,S8⟩|⟨hr,RA,rc,rfl,S8⟩);rotate_left
    ·have q:=Hd (Af (sd:=u) I.1 HD.1 HM.1 z.1 HI.1 (by rw[Int.toNat_natCast,hr]));replace j:=Hd (j.1.below S8.bel);clear hr S8 H D d2 d3 G;obtain⟨e0,e1,e2,e3,e4,e5,e6,e7,y2,lr⟩:=pz (j.1.blk 2 rfl).1;have z:=Hd (sM j.1 rfl);go_wp2_with fail;rw[q.1];exact bodyPost_ret (v := .tuple #[.agg zL,.int .i64 6]) (dE Tryz.results25 rfl z.1.1 Tryz.underlying46 (by kernel_rfl)) rfl ⟨zR,rfl,aD.lay0 z.1.2⟩
    have q:=Hd (Js (sd:=u) I.1 HD.1 HM.1 z.1 HI.1 (rs:=rs) (by rw[Int.toNat_natCast];exact hr));replace j:=Hd (j.1.join S8);clear hr S8 H D d2 d3 G;obtain⟨J,n1,n2,n3,K⟩:=bA (j.1.blk 0 rfl).1;go_wp2_with fail;refine(yP l SA LA OA sn sc ln lc on oc _ (HN.1.below j.1.bel) I.1).mono ?_;rintro _ w9 ⟨SB,LB,OB,sd,ld,od,rfl,S9⟩;replace j:=Hd (j.1.join S9);rw[Int.toNat_natCast]at q;clear S9 J n1 n2 n3 K;obtain⟨e0,e1,e2,e3,e4,e5,e6,e7,y2,lr⟩:=pz (j.1.blk 2 rfl).1;have z:=Hd (j.1.put8 2 rfl (.int .i64 l.inputs) (.slice SB sn sd) (.slice LB ln ld) (.slice OB on od) (.slice BA bn bc) (.slice CA cn cc) (.slice QA bn qc) (.slice RA cn rc));go_wp2_with fail;rw[q.1];exact bodyPost_ret (v := .tuple #[.agg #[.int .i64 l.inputs,.slice SB sn sd,.slice LB ln ld,.slice OB on od,.slice BA bn bc,.slice CA cn cc,.slice QA bn qc,.slice RA cn rc],.int .i64 1]) (dE Tryz.results25 rfl (z.1.blk 2 rfl).1 Tryz.underlying46 (by kernel_rfl)) rfl ⟨⟨SB,LB,OB,BA,CA,QA,RA,sn,ln,on,bn,cn,bn,cn,sd,ld,od,bc,cc,qc,rc⟩,rfl,aD.lay ⟨l,(fM l).1,csD l,qM d (kdD l) (csD l) p u M,rs⟩ (((z.1.sub (qs:=[_,_,_,_,_,_,_]) (.cons _ (.cons _ (.cons _ (.cons_cons _ (.cons_cons _ (.cons _ (.cons _ (List.Sublist.refl _))))))))).perm (List.perm_append_comm (l₁:=[_,_,_,_]) (l₂:=[_,_,_]))))⟩
theorem Je{k0:Int}:∀{cs:List Cel} {j:Nat} {c:Cel},cs[j]?=some c→(mkL k0 cs)[j]?=some (mkC (k0+(bE (cs.take j):Int)) c)
 | [],_,_,h=>by simp at h
 | c::cs,0,_,h=>by
  simp at h;subst h
  simp[mkL,bE]
 | c::cs,j+1,_,h=>by
  rw[List.getElem?_cons_succ]at h;rw[mkL,List.getElem?_cons_succ,Je h,List.take_succ_cons,bE,Int.natCast_add,Int.add_assoc]
theorem iw{w:World}{B e s n c:Nat}{A:Oh}{cs:List Cel}{k0:Int}(h:RdC w B (mkC k0 (.row e s cs)) (.slice A n c)):cs.length=n*s:=by
 rw[mkC]at h;rw[←kU k0 cs];exact h.len
theorem rJ{w:World}{B e s n c j:Nat}{A:Oh}{cs:List Cel}{k0:Int}(h:RdC w B (mkC k0 (.row e s cs)) (.slice A n c))(hj:j<cs.length):∃b o,A=some ⟨b,o,none⟩/\b<B:=by
 rw[mkC]at h;obtain⟨b,o,h1,h2,_⟩:=h.cell (by rw[kU];omega);exact⟨b,o,h1,h2⟩
theorem Fv{w:World}{B e s n c j b o:Nat}{cs:List Cel}{k0:Int}{x:Cel}(h:RdC w B (mkC k0 (.row e s cs)) (.slice (some ⟨b,o,none⟩) n c))(hj:cs[j]?=some x):∃v,w.cell? ⟨b,o+j,none⟩=some v/\RdC w B (mkC (k0+(bE (cs.take j):Int)) x) v:=by
 have hl:=(List.getElem?_eq_some_iff.1 hj).1;rw[mkC]at h;obtain⟨u,z,h1,_,h2⟩:=h.cell (by rw[kU];omega);injection h1 with h1
 injection h1 with e1 e2
 subst e1 e2;obtain⟨D,v,h3,g,q⟩:=h2 j (by rw[kU];exact hl);rw[Je hj]at h3;injection h3 with h3
 subst h3;exact⟨v,g,q⟩
theorem jO{w:World}{B e s n c j b o:Nat}{cs:List Cel}{k0 y:Int}{x:Int}(h:RdC w B (mkC k0 (.row e s cs)) (.slice (some ⟨b,o,none⟩) n c))(hj:cs[j]?=some (.int x))(g:k0+(bE (cs.take j):Int)=y):w.cell? ⟨b,o+j,none⟩=some (.int .i64 y):=by
 obtain⟨v,h1,h2⟩:=Fv h hj;rw[mkC,jJ,g]at h2;rw[h1,h2]
theorem qb{w:World}{B e s n c j b o e' q:Nat}{cs g:List Cel}{k0 y:Int}(h:RdC w B (mkC k0 (.row e s cs)) (.slice (some ⟨b,o,none⟩) n c))(hj:cs[j]?=some (.row e' q g))(u:k0+(bE (cs.take j):Int)=y):∃S m p,w.cell? ⟨b,o+j,none⟩=some (.slice S m p)/\RdC w B (mkC y (.row e' q g)) (.slice S m p):=by
 obtain⟨v,h1,h2⟩:=Fv h hj;rw[u]at h2;have h3:=h2;rw[mkC,kQ]at h3;obtain⟨S,m,p,rfl,_⟩:=h3;exact⟨S,m,p,h1,h2⟩
theorem xE{α:Type}{f g:α→Int}:∀xs:List α,bE (xs.flatMap fun x=>[Cel.int (f x),.int (g x)])=xs.length*2
 | []=>rfl
 | x::xs=>by
  rw[List.flatMap_cons,List.cons_append,List.cons_append,List.nil_append,bE,bE,xE xs,List.length_cons,aO,aO];omega
theorem mP(A:Oh)(n c:Nat)(xs:List Int)(k0:Int)(w:World)(h:RdC w w.heap.size (mkC k0 (aI xs)) (.slice A n c))(j:0<=k0)(g:k0+(aO (aI xs):Int)<=1099511627776)(_hn:n<=1099511627776) :
  Calls Tryz.prog 77 #[.slice A n c,.int .i64 k0] w fun e w'=>e=.returned (.int .i64 (k0+(aO (aI xs):Int)))/\Below w.heap.size w w':=by
 have hl:xs.length=n:=by have h1:=iw (show RdC w w.heap.size (mkC k0 (.row 3 1 (xs.map .int))) (.slice A n c) from h);rw[List.length_map,Nat.mul_one]at h1;exact h1
 have hc:aO (aI xs)=n:=by rw[aI,aO,ol,hl]
 rw[hc]at g ⊢;have h2:mkC k0 (aI xs)=aI (xO k0 n):=by rw[aI,mkC,JP,hl];rfl
 rw[h2]at h;exact D7 A n c (xO k0 n) k0 w h.ints rfl j (by omega) (by omega)
theorem Fw(A:Oh)(n c:Nat)(xs:List LeT)(k0:Int)(w:World)(h:RdC w w.heap.size (mkC k0 (ay xs)) (.slice A n c))(al:0<=k0)(G:k0+(aO (ay xs):Int)<=1099511627776)(hn:n<=1099511627776) :
  Calls Tryz.prog 199 #[.slice A n c,.int .i64 k0] w fun e w'=>e=.returned (.int .i64 (k0+(aO (ay xs):Int)))/\Below w.heap.size w w':=by
 have hl:xs.length=n:=by have h1:=iw h;rw[bW (s:=2) (fun _=>rfl)]at h1;omega
 obtain⟨W,HR⟩:=hd2 hl h;have I:Hv (aO (ay xs)=bE (xs.flatMap LeT.cells)):=Hd<|by show _=_;rw[ay,aO]
 rw[I.1]at G;have Y:=Hd G;clear h hl;go_enter Tryz.func199,Tryz.ntmps199;go_wp2
 go_loopw[1,5] (fun v i wr=>∃k:Nat,k<=n/\i=.int .i64 (k:Int)/\v=.int .i64 (k0+(bE ((xs.flatMap LeT.cells).take (k*2)):Int))/\Below w.heap.size w wr) (fun _ i _=>n-(intOf i).toNat)
 ·exact⟨0,by omega,rfl,by simp[bE],Below.refl _ _⟩
 obtain⟨k,hk,rfl,rfl,hb⟩:=hrel;have R:=Hd hb;clear hb;by_cases af:k<n
 ·have g:k<xs.length:=by rw[W.1];exact af
  have H:=bW (cells:=LeT.cells) (s:=2) (fun _=>rfl) xs;obtain⟨b,o,rfl,ak⟩:=rJ (j:=k*2) (HR.1.below R.1) (by rw[H,W.1];omega);have B:=Hd (HR.1.below R.1);have q:Hv ((xs.flatMap LeT.cells)[k*2]?=some (.int ((xs[k]?.getD LeT.zero).lut))):=Hd<|bO (cells:=LeT.cells) (s:=2) (z:=LeT.zero) (r:=0) (fun _=>rfl) g (by omega)
  have ad:=bS q.1
  try simp only[aO]at ad
  have D:Hv ((xs.flatMap LeT.cells)[k*2+1]?=some (.int ((xs[k]?.getD LeT.zero).ff))):=Hd<|bO (cells:=LeT.cells) (s:=2) (z:=LeT.zero) (r:=1) (fun _=>rfl) g (by omega)
  have U:=bS D.1
  try simp only[aO]at U
  have ai:=eP (xs.flatMap LeT.cells) (k*2+2);have K:(k+1)*2=k*2+2:=by omega
  generalize J:bE ((xs.flatMap LeT.cells).take (k*2))=K0 at *;generalize Q:bE ((xs.flatMap LeT.cells).take (k*2+1))=K1 at *;generalize u:bE ((xs.flatMap LeT.cells).take (k*2+2))=K2 at *;have am:=Y.1;have c0:wr.cell? ⟨b,o+k*2,none⟩=some (.int .i64 (k0+(K0:Int))):=jO (j:=k*2) B.1 q.1 (by rw[J] <;> omega);have c1:wr.cell? ⟨b,o+k*2+1,none⟩=some (.int .i64 (k0+(K0:Int)+1)):=jO (j:=k*2+1) B.1 D.1 (by rw[Q] <;> omega);obtain⟨Z,ae⟩:=hd2 u K;obtain⟨i0,i1⟩:=ib (by omega:k<n);clear g H K J Q u;go_wp2;go_roundw
  ·exact⟨k+1,by omega,by go_num,by rw[ae.1,Z.1];congr 1;omega,R.1⟩
  simp[intOf];omega
 have V:k=n:=by omega
 subst V;have HV:Hv (bE ((xs.flatMap LeT.cells).take (k*2))=aO (ay xs)):=Hd<|by show _=_;rw[I.1,List.take_of_length_le (by rw[bW (s:=2) (fun _=>rfl),W.1];exact Nat.le_refl _)]
 rw[HV.1];go_wp2;go_ret;exact⟨rfl,R.1⟩
theorem za(A:Oh)(n c:Nat)(xs:List Blk)(k0:Int)(w:World)(h:RdC w w.heap.size (mkC k0 (aa xs)) (.slice A n c))(aE:0<=k0)(B:k0+(aO (aa xs):Int)<=1099511627776)(hn:n<=1099511627776) :
  Calls Tryz.prog 104 #[.slice A n c,.int .i64 k0] w fun e w'=>e=.returned (.int .i64 (k0+(aO (aa xs):Int)))/\Below w.heap.size w w':=by
 have hl:xs.length=n:=by have h1:=iw h;rw[bW (s:=3) (fun _=>rfl)]at h1;omega
 obtain⟨HL,HR⟩:=hd2 hl h;have R:Hv (aO (aa xs)=bE (xs.flatMap Blk.cells)):=Hd<|by show _=_;rw[aa,aO]
 rw[R.1]at B;have ah:=Hd B;clear h hl;go_enter Tryz.func104,Tryz.ntmps104;go_wp2
 go_loopw[1,5] (fun v i wr=>∃k:Nat,k<=n/\i=.int .i64 (k:Int)/\v=.int .i64 (k0+(bE ((xs.flatMap Blk.cells).take (k*3)):Int))/\Below w.heap.size w wr) (fun _ i _=>n-(intOf i).toNat)
 ·exact⟨0,by omega,rfl,by simp[bE],Below.refl _ _⟩
 obtain⟨k,hk,rfl,rfl,hb⟩:=hrel;have HB:=Hd hb;clear hb;by_cases aj:k<n
 ·have q:k<xs.length:=by rw[HL.1];exact aj
  have D:=bW (cells:=Blk.cells) (s:=3) (fun _=>rfl) xs;obtain⟨b,o,rfl,ag⟩:=rJ (j:=k*3) (HR.1.below HB.1) (by rw[D,HL.1];omega);have u:=Hd (HR.1.below HB.1);have K:Hv ((xs.flatMap Blk.cells)[k*3]?=some (.int ((xs[k]?.getD Blk.zero).kind))):=Hd<|bO (cells:=Blk.cells) (s:=3) (z:=Blk.zero) (r:=0) (fun _=>rfl) q (by omega)
  have ao:=bS K.1
  try simp only[aO]at ao
  have I:Hv ((xs.flatMap Blk.cells)[k*3+1]?=some (.int ((xs[k]?.getD Blk.zero).item))):=Hd<|bO (cells:=Blk.cells) (s:=3) (z:=Blk.zero) (r:=1) (fun _=>rfl) q (by omega)
  have aq:=bS I.1
  try simp only[aO]at aq
  have J:Hv ((xs.flatMap Blk.cells)[k*3+2]?=some (ay (xs[k]?.getD Blk.zero).les)):=Hd<|bO (cells:=Blk.cells) (s:=3) (z:=Blk.zero) (r:=2) (fun _=>rfl) q (by omega)
  have aF:=bS J.1;have aG:=eP (xs.flatMap Blk.cells) (k*3+3);have G:(k+1)*3=k*3+3:=by omega
  generalize Y:bE ((xs.flatMap Blk.cells).take (k*3))=Z at *;generalize H:bE ((xs.flatMap Blk.cells).take (k*3+1))=K1 at *;generalize Q:bE ((xs.flatMap Blk.cells).take (k*3+2))=K2 at *;generalize W:bE ((xs.flatMap Blk.cells).take (k*3+3))=K3 at *;generalize hq2:aO (ay (xs[k]?.getD Blk.zero).les)=q2 at *;have aH:=ah.1;have c0:wr.cell? ⟨b,o+k*3,none⟩=some (.int .i64 (k0+(Z:Int))):=jO (j:=k*3) u.1 K.1 (by rw[Y] <;> omega);have c1:wr.cell? ⟨b,o+k*3+1,none⟩=some (.int .i64 (k0+(Z:Int)+1)):=jO (j:=k*3+1) u.1 I.1 (by rw[H] <;> omega);obtain⟨S2,m2,p2,c2,r2⟩:=qb (y:=k0+(Z:Int)+1+1) (j:=k*3+2) u.1 J.1 (by rw[Q] <;> omega);have c2:wr.cell? ⟨b,o+k*3+2,none⟩=some (.slice S2 m2 p2):=c2;have l2:=iw r2;rw[bW (s:=2) (fun _=>rfl)]at l2;have t2:=xE (f:=LeT.lut) (g:=LeT.ff) ((xs[k]?.getD Blk.zero).les);have t2:q2=((xs[k]?.getD Blk.zero).les).length*2:=by rw[←hq2,←t2,ay,aO];rfl
  have u2:m2<=1099511627776:=by omega
  clear l2 t2;obtain⟨R2,V⟩:=hd2 r2 hq2;clear r2;obtain⟨am,ai⟩:=hd2 W G;obtain⟨i0,i1⟩:=ib (by omega:k<n);clear q D G Y H Q W hq2;go_wp2_with fail;refine(Fw S2 m2 p2 _ _ _ (R2.1.below (Below.refl _ _)) (by omega) (by rw[V.1];omega) (by omega)).mono ?_;rw[V.1];rintro _ w1 ⟨rfl,b1⟩;have U:=Hd (b1);have ak:¬(k0+(Z:Int)+1+1+(q2:Int)<0):=by omega
  have aB:=aJ U.1 ag;clear b1 c0 c1 c2;go_wp2;go_roundw
  ·exact⟨k+1,by omega,by go_num,by rw[ai.1,am.1];congr 1;omega,aA HB.1 U.1⟩
  simp[intOf];omega
 have ae:k=n:=by omega
 subst ae;have HV:Hv (bE ((xs.flatMap Blk.cells).take (k*3))=aO (aa xs)):=Hd<|by show _=_;rw[R.1,List.take_of_length_le (by rw[bW (s:=3) (fun _=>rfl),HL.1];exact Nat.le_refl _)]
 rw[HV.1];go_wp2;go_ret;exact⟨rfl,HB.1⟩
theorem Dc(A:Oh)(n c:Nat)(xs:List aL)(k0:Int)(w:World)(h:RdC w w.heap.size (mkC k0 (aZ xs)) (.slice A n c))(al:0<=k0)(G:k0+(aO (aZ xs):Int)<=1099511627776)(hn:n<=1099511627776) :
  Calls Tryz.prog 200 #[.slice A n c,.int .i64 k0] w fun e w'=>e=.returned (.int .i64 (k0+(aO (aZ xs):Int)))/\Below w.heap.size w w':=by
 have hl:xs.length=n:=by have h1:=iw h;rw[bW (s:=2) (fun _=>rfl)]at h1;omega
 obtain⟨W,HR⟩:=hd2 hl h;have I:Hv (aO (aZ xs)=bE (xs.flatMap aL.cells)):=Hd<|by show _=_;rw[aZ,aO]
 rw[I.1]at G;have Y:=Hd G;clear h hl;go_enter Tryz.func200,Tryz.ntmps200;go_wp2
 go_loopw[1,5] (fun v i wr=>∃k:Nat,k<=n/\i=.int .i64 (k:Int)/\v=.int .i64 (k0+(bE ((xs.flatMap aL.cells).take (k*2)):Int))/\Below w.heap.size w wr) (fun _ i _=>n-(intOf i).toNat)
 ·exact⟨0,by omega,rfl,by simp[bE],Below.refl _ _⟩
 obtain⟨k,hk,rfl,rfl,hb⟩:=hrel;have R:=Hd hb;clear hb;by_cases af:k<n
 ·have g:k<xs.length:=by rw[W.1];exact af
  have H:=bW (cells:=aL.cells) (s:=2) (fun _=>rfl) xs;obtain⟨b,o,rfl,ak⟩:=rJ (j:=k*2) (HR.1.below R.1) (by rw[H,W.1];omega);have B:=Hd (HR.1.below R.1);have q:Hv ((xs.flatMap aL.cells)[k*2]?=some (.int ((xs[k]?.getD aL.zero).block))):=Hd<|bO (cells:=aL.cells) (s:=2) (z:=aL.zero) (r:=0) (fun _=>rfl) g (by omega)
  have ad:=bS q.1
  try simp only[aO]at ad
  have D:Hv ((xs.flatMap aL.cells)[k*2+1]?=some (.int ((xs[k]?.getD aL.zero).pin))):=Hd<|bO (cells:=aL.cells) (s:=2) (z:=aL.zero) (r:=1) (fun _=>rfl) g (by omega)
  have U:=bS D.1
  try simp only[aO]at U
  have ai:=eP (xs.flatMap aL.cells) (k*2+2);have K:(k+1)*2=k*2+2:=by omega
  generalize J:bE ((xs.flatMap aL.cells).take (k*2))=K0 at *;generalize Q:bE ((xs.flatMap aL.cells).take (k*2+1))=K1 at *;generalize u:bE ((xs.flatMap aL.cells).take (k*2+2))=K2 at *;have am:=Y.1;have c0:wr.cell? ⟨b,o+k*2,none⟩=some (.int .i64 (k0+(K0:Int))):=jO (j:=k*2) B.1 q.1 (by rw[J] <;> omega);have c1:wr.cell? ⟨b,o+k*2+1,none⟩=some (.int .i64 (k0+(K0:Int)+1)):=jO (j:=k*2+1) B.1 D.1 (by rw[Q] <;> omega);obtain⟨Z,ae⟩:=hd2 u K;obtain⟨i0,i1⟩:=ib (by omega:k<n);clear g H K J Q u;go_wp2;go_roundw
  ·exact⟨k+1,by omega,by go_num,by rw[ae.1,Z.1];congr 1;omega,R.1⟩
  simp[intOf];omega
 have V:k=n:=by omega
 subst V;have HV:Hv (bE ((xs.flatMap aL.cells).take (k*2))=aO (aZ xs)):=Hd<|by show _=_;rw[I.1,List.take_of_length_le (by rw[bW (s:=2) (fun _=>rfl),W.1];exact Nat.le_refl _)]
 rw[HV.1];go_wp2;go_ret;exact⟨rfl,R.1⟩
theorem Au(A:Oh)(n c:Nat)(xs:List Cn)(k0:Int)(w:World)(h:RdC w w.heap.size (mkC k0 (bL xs)) (.slice A n c))(aH:0<=k0)(D:k0+(aO (bL xs):Int)<=1099511627776)(hn:n<=1099511627776) :
  Calls Tryz.prog 105 #[.slice A n c,.int .i64 k0] w fun e w'=>e=.returned (.int .i64 (k0+(aO (bL xs):Int)))/\Below w.heap.size w w':=by
 have hl:xs.length=n:=by have h1:=iw h;rw[bW (s:=4) (fun _=>rfl)]at h1;omega
 obtain⟨HL,HR⟩:=hd2 hl h;have W:Hv (aO (bL xs)=bE (xs.flatMap Cn.cells)):=Hd<|by show _=_;rw[bL,aO]
 rw[W.1]at D;have aj:=Hd D;clear h hl;go_enter Tryz.func105,Tryz.ntmps105;go_wp2
 go_loopw[1,5] (fun v i wr=>∃k:Nat,k<=n/\i=.int .i64 (k:Int)/\v=.int .i64 (k0+(bE ((xs.flatMap Cn.cells).take (k*4)):Int))/\Below w.heap.size w wr) (fun _ i _=>n-(intOf i).toNat)
 ·exact⟨0,by omega,rfl,by simp[bE],Below.refl _ _⟩
 obtain⟨k,hk,rfl,rfl,hb⟩:=hrel;have HB:=Hd hb;clear hb;by_cases ao:k<n
 ·have q:k<xs.length:=by rw[HL.1];exact ao
  have G:=bW (cells:=Cn.cells) (s:=4) (fun _=>rfl) xs;obtain⟨b,o,rfl,ai⟩:=rJ (j:=k*4) (HR.1.below HB.1) (by rw[G,HL.1];omega);have u:=Hd (HR.1.below HB.1);have U:Hv ((xs.flatMap Cn.cells)[k*4]?=some (.int ((xs[k]?.getD Cn.zero).node))):=Hd<|bO (cells:=Cn.cells) (s:=4) (z:=Cn.zero) (r:=0) (fun _=>rfl) q (by omega)
  have au:=bS U.1
  try simp only[aO]at au
  have Q:Hv ((xs.flatMap Cn.cells)[k*4+1]?=some (.int ((xs[k]?.getD Cn.zero).src.block))):=Hd<|bO (cells:=Cn.cells) (s:=4) (z:=Cn.zero) (r:=1) (fun _=>rfl) q (by omega)
  have av:=bS Q.1
  try simp only[aO]at av
  have R:Hv ((xs.flatMap Cn.cells)[k*4+2]?=some (.int ((xs[k]?.getD Cn.zero).src.pin))):=Hd<|bO (cells:=Cn.cells) (s:=4) (z:=Cn.zero) (r:=2) (fun _=>rfl) q (by omega)
  have al:=bS R.1
  try simp only[aO]at al
  have ae:Hv ((xs.flatMap Cn.cells)[k*4+3]?=some (aZ (xs[k]?.getD Cn.zero).sinks)):=Hd<|bO (cells:=Cn.cells) (s:=4) (z:=Cn.zero) (r:=3) (fun _=>rfl) q (by omega)
  have aK:=bS ae.1;have aI:=eP (xs.flatMap Cn.cells) (k*4+4);have I:(k+1)*4=k*4+4:=by omega
  generalize af:bE ((xs.flatMap Cn.cells).take (k*4))=H at *;generalize K:bE ((xs.flatMap Cn.cells).take (k*4+1))=K1 at *;generalize V:bE ((xs.flatMap Cn.cells).take (k*4+2))=K2 at *;generalize ad:bE ((xs.flatMap Cn.cells).take (k*4+3))=K3 at *;generalize J:bE ((xs.flatMap Cn.cells).take (k*4+4))=K4 at *;generalize B:aO (aZ (xs[k]?.getD Cn.zero).sinks)=q3 at *;have aM:=aj.1;have c0:wr.cell? ⟨b,o+k*4,none⟩=some (.int .i64 (k0+(H:Int))):=jO (j:=k*4) u.1 U.1 (by rw[af] <;> omega);have c1:wr.cell? ⟨b,o+k*4+1,none⟩=some (.int .i64 (k0+(H:Int)+1)):=jO (j:=k*4+1) u.1 Q.1 (by rw[K] <;> omega);have c2:wr.cell? ⟨b,o+k*4+2,none⟩=some (.int .i64 (k0+(H:Int)+1+1)):=jO (j:=k*4+2) u.1 R.1 (by rw[V] <;> omega);obtain⟨S3,m3,p3,c3,r3⟩:=qb (y:=k0+(H:Int)+1+1+1) (j:=k*4+3) u.1 ae.1 (by rw[ad] <;> omega);have c3:wr.cell? ⟨b,o+k*4+3,none⟩=some (.slice S3 m3 p3):=c3;have l3:=iw r3;rw[bW (s:=2) (fun _=>rfl)]at l3;have t3:=xE (f:=aL.block) (g:=aL.pin) ((xs[k]?.getD Cn.zero).sinks);have t3:q3=((xs[k]?.getD Cn.zero).sinks).length*2:=by rw[←B,←t3,aZ,aO];rfl
  have u3:m3<=1099511627776:=by omega
  clear l3 t3;obtain⟨R3,Z⟩:=hd2 r3 B;clear r3;obtain⟨ar,am⟩:=hd2 J I;obtain⟨i0,i1⟩:=ib (by omega:k<n);clear q G I af K V ad J B;go_wp2_with fail;refine(Dc S3 m3 p3 _ _ _ (R3.1.below (Below.refl _ _)) (by omega) (by rw[Z.1];omega) (by omega)).mono ?_;rw[Z.1];rintro _ w1 ⟨rfl,b1⟩;have Y:=Hd (b1);have aq:¬(k0+(H:Int)+1+1+1+(q3:Int)<0):=by omega
  have aE:=aJ Y.1 ai;clear b1 c0 c1 c2 c3;go_wp2;go_roundw
  ·exact⟨k+1,by omega,by go_num,by rw[am.1,ar.1];congr 1;omega,aA HB.1 Y.1⟩
  simp[intOf];omega
 have ah:k=n:=by omega
 subst ah;have HV:Hv (bE ((xs.flatMap Cn.cells).take (k*4))=aO (bL xs)):=Hd<|by show _=_;rw[W.1,List.take_of_length_le (by rw[bW (s:=4) (fun _=>rfl),HL.1];exact Nat.le_refl _)]
 rw[HV.1];go_wp2;go_ret;exact⟨rfl,HB.1⟩
theorem zb(A:Oh)(n c:Nat)(xs:List Rou)(k0:Int)(w:World)(h:RdC w w.heap.size (mkC k0 (bM xs)) (.slice A n c))(aH:0<=k0)(D:k0+(aO (bM xs):Int)<=1099511627776)(hn:n<=1099511627776) :
  Calls Tryz.prog 106 #[.slice A n c,.int .i64 k0] w fun e w'=>e=.returned (.int .i64 (k0+(aO (bM xs):Int)))/\Below w.heap.size w w':=by
 have hl:xs.length=n:=by have h1:=iw h;rw[bW (s:=2) (fun _=>rfl)]at h1;omega
 obtain⟨HL,HR⟩:=hd2 hl h;have Y:Hv (aO (bM xs)=bE (xs.flatMap Rou.cells)):=Hd<|by show _=_;rw[bM,aO]
 rw[Y.1]at D;have al:=Hd D;clear h hl;go_enter Tryz.func106,Tryz.ntmps106;go_wp2
 go_loopw[1,5] (fun v i wr=>∃k:Nat,k<=n/\i=.int .i64 (k:Int)/\v=.int .i64 (k0+(bE ((xs.flatMap Rou.cells).take (k*2)):Int))/\Below w.heap.size w wr) (fun _ i _=>n-(intOf i).toNat)
 ·exact⟨0,by omega,rfl,by simp[bE],Below.refl _ _⟩
 obtain⟨k,hk,rfl,rfl,hb⟩:=hrel;have HB:=Hd hb;clear hb;by_cases ap:k<n
 ·have B:k<xs.length:=by rw[HL.1];exact ap
  have G:=bW (cells:=Rou.cells) (s:=2) (fun _=>rfl) xs;obtain⟨b,o,rfl,u⟩:=rJ (j:=k*2) (HR.1.below HB.1) (by rw[G,HL.1];omega);have W:=Hd (HR.1.below HB.1);have R:Hv ((xs.flatMap Rou.cells)[k*2]?=some (aI (xs[k]?.getD Rou.zero).nodes)):=Hd<|bO (cells:=Rou.cells) (s:=2) (z:=Rou.zero) (r:=0) (fun _=>rfl) B (by omega)
  have aM:=bS R.1;have K:Hv ((xs.flatMap Rou.cells)[k*2+1]?=some (aI (xs[k]?.getD Rou.zero).from_)):=Hd<|bO (cells:=Rou.cells) (s:=2) (z:=Rou.zero) (r:=1) (fun _=>rfl) B (by omega)
  have aN:=bS K.1;have aP:=eP (xs.flatMap Rou.cells) (k*2+2);have I:(k+1)*2=k*2+2:=by omega
  generalize ad:bE ((xs.flatMap Rou.cells).take (k*2))=K0 at *;generalize J:bE ((xs.flatMap Rou.cells).take (k*2+1))=K1 at *;generalize V:bE ((xs.flatMap Rou.cells).take (k*2+2))=K2 at *;generalize q:aO (aI (xs[k]?.getD Rou.zero).nodes)=q0 at *;generalize hq1:aO (aI (xs[k]?.getD Rou.zero).from_)=q1 at *;have aR:=al.1;obtain⟨S0,m0,p0,c0,r0⟩:=qb (y:=k0+(K0:Int)) (j:=k*2) W.1 R.1 (by rw[ad] <;> omega);have l0:=iw (show RdC wr wr.heap.size (mkC _ (.row 3 1 (((xs[k]?.getD Rou.zero).nodes).map .int))) (.slice S0 m0 p0) from r0);rw[List.length_map,Nat.mul_one]at l0;have t0:q0=m0:=by rw[←q,←l0,aI,aO,ol]
  have u0:m0<=1099511627776:=by omega
  clear l0 t0;obtain⟨R0,U⟩:=hd2 r0 q;clear r0;obtain⟨S1,Z,p1,c1,r1⟩:=qb (y:=k0+(K0:Int)+(q0:Int)) (j:=k*2+1) W.1 K.1 (by rw[J] <;> omega);have c1:wr.cell? ⟨b,o+k*2+1,none⟩=some (.slice S1 Z p1):=c1;have l1:=iw (show RdC wr wr.heap.size (mkC _ (.row 3 1 (((xs[k]?.getD Rou.zero).from_).map .int))) (.slice S1 Z p1) from r1);rw[List.length_map,Nat.mul_one]at l1;have t1:q1=Z:=by rw[←hq1,←l1,aI,aO,ol]
  have u1:Z<=1099511627776:=by omega
  clear l1 t1;obtain⟨R1,H⟩:=hd2 r1 hq1;clear r1;obtain⟨av,ao⟩:=hd2 V I;obtain⟨i0,i1⟩:=ib (by omega:k<n);clear B G I ad J V q hq1;go_wp2_with fail;refine(mP S0 m0 p0 _ _ _ (R0.1.below (Below.refl _ _)) (by omega) (by rw[U.1];omega) (by omega)).mono ?_;rw[U.1];rintro _ w1 ⟨rfl,b1⟩;have g:=Hd (b1);have aw:¬(k0+(K0:Int)+(q0:Int)<0):=by omega
  rw[←g.1.cell (p:=⟨b,o+k*2+1,none⟩) u]at c1;have aE:=aJ g.1 u;clear b1 c0;go_wp2_with fail;refine(mP S1 Z p1 _ _ _ (R1.1.below (g.1)) (by omega) (by rw[H.1];omega) (by omega)).mono ?_;rw[H.1];rintro _ w2 ⟨rfl,b2⟩;have Q:=Hd (aA g.1 b2);have am:¬(k0+(K0:Int)+(q0:Int)+(q1:Int)<0):=by omega
  have aQ:=aJ Q.1 u;clear b2 c1;go_wp2;go_roundw
  ·exact⟨k+1,by omega,by go_num,by rw[ao.1,av.1];congr 1;omega,aA HB.1 Q.1⟩
  simp[intOf];omega
 have aj:k=n:=by omega
 subst aj;have HV:Hv (bE ((xs.flatMap Rou.cells).take (k*2))=aO (bM xs)):=Hd<|by show _=_;rw[Y.1,List.take_of_length_le (by rw[bW (s:=2) (fun _=>rfl),HL.1];exact Nat.le_refl _)]
 rw[HV.1];go_wp2;go_ret;exact⟨rfl,HB.1⟩
theorem Df(A:Oh)(n c:Nat)(xs:List Lt)(k0:Int)(w:World)(h:RdC w w.heap.size (mkC k0 (aj xs)) (.slice A n c))(az:0<=k0)(J:k0+(aO (aj xs):Int)<=1099511627776)(hn:n<=1099511627776) :
  Calls Tryz.prog 198 #[.slice A n c,.int .i64 k0] w fun e w'=>e=.returned (.int .i64 (k0+(aO (aj xs):Int)))/\Below w.heap.size w w':=by
 have hl:xs.length=n:=by have h1:=iw h;rw[bW (s:=2) (fun _=>rfl)]at h1;omega
 obtain⟨HL,HR⟩:=hd2 hl h;have Q:Hv (aO (aj xs)=bE (xs.flatMap Lt.cells)):=Hd<|by show _=_;rw[aj,aO]
 rw[Q.1]at J;have ai:=Hd J;clear h hl;go_enter Tryz.func198,Tryz.ntmps198;go_wp2
 go_loopw[1,5] (fun v i wr=>∃k:Nat,k<=n/\i=.int .i64 (k:Int)/\v=.int .i64 (k0+(bE ((xs.flatMap Lt.cells).take (k*2)):Int))/\Below w.heap.size w wr) (fun _ i _=>n-(intOf i).toNat)
 ·exact⟨0,by omega,rfl,by simp[bE],Below.refl _ _⟩
 obtain⟨k,hk,rfl,rfl,hb⟩:=hrel;have Z:=Hd hb;clear hb;by_cases ao:k<n
 ·have g:k<xs.length:=by rw[HL.1];exact ao
  have K:=bW (cells:=Lt.cells) (s:=2) (fun _=>rfl) xs;obtain⟨b,o,rfl,R⟩:=rJ (j:=k*2) (HR.1.below Z.1) (by rw[K,HL.1];omega);have H:=Hd (HR.1.below Z.1);have B:Hv ((xs.flatMap Lt.cells)[k*2]?=some (aI (xs[k]?.getD Lt.zero).ins)):=Hd<|bO (cells:=Lt.cells) (s:=2) (z:=Lt.zero) (r:=0) (fun _=>rfl) g (by omega)
  have aD:=bS B.1;have I:Hv ((xs.flatMap Lt.cells)[k*2+1]?=some (.int ((xs[k]?.getD Lt.zero).mask))):=Hd<|bO (cells:=Lt.cells) (s:=2) (z:=Lt.zero) (r:=1) (fun _=>rfl) g (by omega)
  have ad:=bS I.1
  try simp only[aO]at ad
  have av:=eP (xs.flatMap Lt.cells) (k*2+2);have V:(k+1)*2=k*2+2:=by omega
  generalize U:bE ((xs.flatMap Lt.cells).take (k*2))=K0 at *;generalize W:bE ((xs.flatMap Lt.cells).take (k*2+1))=K1 at *;generalize G:bE ((xs.flatMap Lt.cells).take (k*2+2))=K2 at *;generalize q:aO (aI (xs[k]?.getD Lt.zero).ins)=q0 at *;have aC:=ai.1;obtain⟨S0,Y,p0,c0,r0⟩:=qb (y:=k0+(K0:Int)) (j:=k*2) H.1 B.1 (by rw[U] <;> omega);have l0:=iw (show RdC wr wr.heap.size (mkC _ (.row 3 1 (((xs[k]?.getD Lt.zero).ins).map .int))) (.slice S0 Y p0) from r0);rw[List.length_map,Nat.mul_one]at l0;have t0:q0=Y:=by rw[←q,←l0,aI,aO,ol]
  have u0:Y<=1099511627776:=by omega
  clear l0 t0;obtain⟨R0,D⟩:=hd2 r0 q;clear r0;have c1:wr.cell? ⟨b,o+k*2+1,none⟩=some (.int .i64 (k0+(K0:Int)+(q0:Int))):=jO (j:=k*2+1) H.1 I.1 (by rw[W] <;> omega);obtain⟨al,am⟩:=hd2 G V;obtain⟨i0,i1⟩:=ib (by omega:k<n);clear g K V U W G q;go_wp2_with fail;refine(mP S0 Y p0 _ _ _ (R0.1.below (Below.refl _ _)) (by omega) (by rw[D.1];omega) (by omega)).mono ?_;rw[D.1];rintro _ w1 ⟨rfl,b1⟩;have u:=Hd (b1);have ap:¬(k0+(K0:Int)+(q0:Int)<0):=by omega
  rw[←u.1.cell (p:=⟨b,o+k*2+1,none⟩) R]at c1;have ay:=aJ u.1 R;clear b1 c0;go_wp2;go_roundw
  ·exact⟨k+1,by omega,by go_num,by rw[am.1,al.1];congr 1;omega,aA Z.1 u.1⟩
  simp[intOf];omega
 have ae:k=n:=by omega
 subst ae;have HV:Hv (bE ((xs.flatMap Lt.cells).take (k*2))=aO (aj xs)):=Hd<|by show _=_;rw[Q.1,List.take_of_length_le (by rw[bW (s:=2) (fun _=>rfl),HL.1];exact Nat.le_refl _)]
 rw[HV.1];go_wp2;go_ret;exact⟨rfl,Z.1⟩
theorem Dh(A:Oh)(n c:Nat)(xs:List Sq)(k0:Int)(w:World)(h:RdC w w.heap.size (mkC k0 (aY xs)) (.slice A n c))(aB:0<=k0)(u:k0+(aO (aY xs):Int)<=1099511627776)(hn:n<=1099511627776) :
  Calls Tryz.prog 197 #[.slice A n c,.int .i64 k0] w fun e w'=>e=.returned (.int .i64 (k0+(aO (aY xs):Int)))/\Below w.heap.size w w':=by
 have hl:xs.length=n:=by have h1:=iw h;rw[bW (s:=3) (fun _=>rfl)]at h1;omega
 obtain⟨HL,HR⟩:=hd2 hl h;have R:Hv (aO (aY xs)=bE (xs.flatMap Sq.cells)):=Hd<|by show _=_;rw[aY,aO]
 rw[R.1]at u;have ag:=Hd u;clear h hl;go_enter Tryz.func197,Tryz.ntmps197;go_wp2
 go_loopw[1,5] (fun v i wr=>∃k:Nat,k<=n/\i=.int .i64 (k:Int)/\v=.int .i64 (k0+(bE ((xs.flatMap Sq.cells).take (k*3)):Int))/\Below w.heap.size w wr) (fun _ i _=>n-(intOf i).toNat)
 ·exact⟨0,by omega,rfl,by simp[bE],Below.refl _ _⟩
 obtain⟨k,hk,rfl,rfl,hb⟩:=hrel;have HB:=Hd hb;clear hb;by_cases ak:k<n
 ·have g:k<xs.length:=by rw[HL.1];exact ak
  have B:=bW (cells:=Sq.cells) (s:=3) (fun _=>rfl) xs;obtain⟨b,o,rfl,af⟩:=rJ (j:=k*3) (HR.1.below HB.1) (by rw[B,HL.1];omega);have q:=Hd (HR.1.below HB.1);have K:Hv ((xs.flatMap Sq.cells)[k*3]?=some (.int ((xs[k]?.getD Sq.zero).kind))):=Hd<|bO (cells:=Sq.cells) (s:=3) (z:=Sq.zero) (r:=0) (fun _=>rfl) g (by omega)
  have ap:=bS K.1
  try simp only[aO]at ap
  have I:Hv ((xs.flatMap Sq.cells)[k*3+1]?=some (.int ((xs[k]?.getD Sq.zero).init))):=Hd<|bO (cells:=Sq.cells) (s:=3) (z:=Sq.zero) (r:=1) (fun _=>rfl) g (by omega)
  have ar:=bS I.1
  try simp only[aO]at ar
  have J:Hv ((xs.flatMap Sq.cells)[k*3+2]?=some (aI (xs[k]?.getD Sq.zero).ins)):=Hd<|bO (cells:=Sq.cells) (s:=3) (z:=Sq.zero) (r:=2) (fun _=>rfl) g (by omega)
  have aC:=bS J.1;have aD:=eP (xs.flatMap Sq.cells) (k*3+3);have G:(k+1)*3=k*3+3:=by omega
  generalize Y:bE ((xs.flatMap Sq.cells).take (k*3))=Z at *;generalize H:bE ((xs.flatMap Sq.cells).take (k*3+1))=K1 at *;generalize Q:bE ((xs.flatMap Sq.cells).take (k*3+2))=K2 at *;generalize W:bE ((xs.flatMap Sq.cells).take (k*3+3))=K3 at *;generalize hq2:aO (aI (xs[k]?.getD Sq.zero).ins)=q2 at *;have aE:=ag.1;have c0:wr.cell? ⟨b,o+k*3,none⟩=some (.int .i64 (k0+(Z:Int))):=jO (j:=k*3) q.1 K.1 (by rw[Y] <;> omega);have c1:wr.cell? ⟨b,o+k*3+1,none⟩=some (.int .i64 (k0+(Z:Int)+1)):=jO (j:=k*3+1) q.1 I.1 (by rw[H] <;> omega);obtain⟨S2,D,p2,c2,r2⟩:=qb (y:=k0+(Z:Int)+1+1) (j:=k*3+2) q.1 J.1 (by rw[Q] <;> omega);have c2:wr.cell? ⟨b,o+k*3+2,none⟩=some (.slice S2 D p2):=c2;have l2:=iw (show RdC wr wr.heap.size (mkC _ (.row 3 1 (((xs[k]?.getD Sq.zero).ins).map .int))) (.slice S2 D p2) from r2);rw[List.length_map,Nat.mul_one]at l2;have t2:q2=D:=by rw[←hq2,←l2,aI,aO,ol]
  have u2:D<=1099511627776:=by omega
  clear l2 t2;obtain⟨R2,V⟩:=hd2 r2 hq2;clear r2;obtain⟨ao,aj⟩:=hd2 W G;obtain⟨i0,i1⟩:=ib (by omega:k<n);clear g B G Y H Q W hq2;go_wp2_with fail;refine(mP S2 D p2 _ _ _ (R2.1.below (Below.refl _ _)) (by omega) (by rw[V.1];omega) (by omega)).mono ?_;rw[V.1];rintro _ w1 ⟨rfl,b1⟩;have U:=Hd (b1);have al:¬(k0+(Z:Int)+1+1+(q2:Int)<0):=by omega
  have ax:=aJ U.1 af;clear b1 c0 c1 c2;go_wp2;go_roundw
  ·exact⟨k+1,by omega,by go_num,by rw[aj.1,ao.1];congr 1;omega,aA HB.1 U.1⟩
  simp[intOf];omega
 have ae:k=n:=by omega
 subst ae;have HV:Hv (bE ((xs.flatMap Sq.cells).take (k*3))=aO (aY xs)):=Hd<|by show _=_;rw[R.1,List.take_of_length_le (by rw[bW (s:=3) (fun _=>rfl),HL.1];exact Nat.le_refl _)]
 rw[HV.1];go_wp2;go_ret;exact⟨rfl,HB.1⟩
theorem Di(inputs:Int)(seqs:List Sq)(luts:List Lt)(outs:List Int)(SA LA OA:Oh)(sn sc ln lc on oc:Nat)(k0:Int)(w:World)(h0:RdC w w.heap.size (mkC (k0) (aY seqs)) (.slice SA sn sc))(h1:RdC w w.heap.size (mkC (k0+(aO (aY seqs):Int)) (aj luts)) (.slice LA ln lc))(h2:RdC w w.heap.size (mkC (k0+(aO (aY seqs):Int)+(aO (aj luts):Int)) (aI outs)) (.slice OA on oc))(ao:0<=k0)(ak:k0+(aO (aY seqs):Int)+(aO (aj luts):Int)+(aO (aI outs):Int)<=1099511627776)(hb:sn<=1099511627776/\ln<=1099511627776/\on<=1099511627776) :
  Calls Tryz.prog 103 #[.agg #[.int .i64 inputs,.slice SA sn sc,.slice LA ln lc,.slice OA on oc],.int .i64 k0] w fun e w'=>e=.returned (.int .i64 (k0+(aO (aY seqs):Int)+(aO (aj luts):Int)+(aO (aI outs):Int)))/\Below w.heap.size w w':=by
 obtain⟨H0,H1,H2,q⟩:=hd4 h0 h1 h2 hb;clear hb h0 h1 h2;generalize I:aO (aY seqs)=V at *;have G:=Hd I;generalize hq1:aO (aj luts)=Z at *;have H:=Hd hq1;generalize hq2:aO (aI outs)=q2 at *;have K:=Hd hq2;clear I hq1 hq2;have j:=Hd (aB (Below.refl w.heap.size w) (.cells #[.int .i64 inputs,.slice SA sn sc,.slice LA ln lc,.slice OA on oc] 41));have Q:=Hd (aG w (.cells #[.int .i64 inputs,.slice SA sn sc,.slice LA ln lc,.slice OA on oc] 41));go_enter Tryz.func103,Tryz.ntmps103;go_upto_region 1 with fail;obtain⟨gx,u⟩:∃g,w.heap.size=g:=⟨_,rfl⟩;rw[u]at Q
 (try rw[u])
 clear u;generalize w.alloc (.cells #[.int .i64 inputs,.slice SA sn sc,.slice LA ln lc,.slice OA on oc] 41)=W0 at *;have D:=Hd (Below.refl W0.heap.size W0);obtain⟨-,x1,J⟩:=iC (aF D.1 Q.1);go_wp2_with fail;refine(Dh SA sn sc seqs _ _ (H0.1.below (aA j.1 D.1)) (by omega) (by rw[G.1];omega) (by have:=q.1;omega)).mono ?_;rw[G.1];rintro _ w1 ⟨rfl,b1⟩;have B:=Hd (aA D.1 b1);have W:¬(k0+(V:Int)<0):=by omega
 clear b1 J x1;obtain⟨-,-,x2,J⟩:=j6 (aF B.1 Q.1);go_wp2_with fail;refine(Df LA ln lc luts _ _ (H1.1.below (aA j.1 B.1)) (by omega) (by rw[H.1];omega) (by have:=q.1;omega)).mono ?_;rw[H.1];rintro _ w2 ⟨rfl,b2⟩;have z:=Hd (aA B.1 b2);have Y:¬(k0+(V:Int)+(Z:Int)<0):=by omega
 clear b2 J x2;obtain⟨-,-,-,x3,J⟩:=bA (aF z.1 Q.1);go_wp2_with fail;refine(mP OA on oc outs _ _ (H2.1.below (aA j.1 z.1)) (by omega) (by rw[K.1];omega) (by have:=q.1;omega)).mono ?_;rw[K.1];rintro _ w3 ⟨rfl,b3⟩;have R:=Hd (aA z.1 b3);have U:¬(k0+(V:Int)+(Z:Int)+(q2:Int)<0):=by omega
 clear b3 J x3;go_wp2;go_ret;exact⟨rfl,aA j.1 R.1⟩
theorem wC(x:Lay)(SA LA OA BA CA PA RA:Oh)(sn sc ln lc on oc bn bc cn cc pn pc rn rc:Nat)(k0:Int)(w:World)(h0:RdC w w.heap.size (mkC (k0) (aY x.net.seqs)) (.slice SA sn sc))(h1:RdC w w.heap.size (mkC (k0+(aO (aY x.net.seqs):Int)) (aj x.net.luts)) (.slice LA ln lc))(h2:RdC w w.heap.size (mkC (k0+(aO (aY x.net.seqs):Int)+(aO (aj x.net.luts):Int)) (aI x.net.outs)) (.slice OA on oc))(h3:RdC w w.heap.size (mkC (k0+(aO (aY x.net.seqs):Int)+(aO (aj x.net.luts):Int)+(aO (aI x.net.outs):Int)) (aa x.blocks)) (.slice BA bn bc))(h4:RdC w w.heap.size (mkC (k0+(aO (aY x.net.seqs):Int)+(aO (aj x.net.luts):Int)+(aO (aI x.net.outs):Int)+(aO (aa x.blocks):Int)) (bL x.conns)) (.slice CA cn cc))(h5:RdC w w.heap.size (mkC (k0+(aO (aY x.net.seqs):Int)+(aO (aj x.net.luts):Int)+(aO (aI x.net.outs):Int)+(aO (aa x.blocks):Int)+(aO (bL x.conns):Int)) (aI x.place)) (.slice PA pn pc))(h6:RdC w w.heap.size (mkC (k0+(aO (aY x.net.seqs):Int)+(aO (aj x.net.luts):Int)+(aO (aI x.net.outs):Int)+(aO (aa x.blocks):Int)+(aO (bL x.conns):Int)+(aO (aI x.place):Int)) (bM x.routes)) (.slice RA rn rc))(au:0<=k0)(aM:k0+(aO (aY x.net.seqs):Int)+(aO (aj x.net.luts):Int)+(aO (aI x.net.outs):Int)+(aO (aa x.blocks):Int)+(aO (bL x.conns):Int)+(aO (aI x.place):Int)+(aO (bM x.routes):Int)<=1099511627776)(hb:sn<=1099511627776/\ln<=1099511627776/\on<=1099511627776/\bn<=1099511627776/\cn<=1099511627776/\pn<=1099511627776/\rn<=1099511627776) :
  Calls Tryz.prog 30 #[.agg #[.int .i64 x.net.inputs,.slice SA sn sc,.slice LA ln lc,.slice OA on oc,.slice BA bn bc,.slice CA cn cc,.slice PA pn pc,.slice RA rn rc],.int .i64 k0] w fun e w'=>e=.returned (.int .i64 (k0+(aO (aY x.net.seqs):Int)+(aO (aj x.net.luts):Int)+(aO (aI x.net.outs):Int)+(aO (aa x.blocks):Int)+(aO (bL x.conns):Int)+(aO (aI x.place):Int)+(aO (bM x.routes):Int)))/\Below w.heap.size w w':=by
 obtain⟨H0,H1,H2,H3,H4,H5,H6,u⟩:=hd8 h0 h1 h2 h3 h4 h5 h6 hb;clear hb h0 h1 h2 h3 h4 h5 h6;generalize R:aO (aY x.net.seqs)=q0 at *;have B:=Hd R;generalize hq1:aO (aj x.net.luts)=q1 at *;have G:=Hd hq1;generalize hq2:aO (aI x.net.outs)=W at *;have ad:=Hd hq2;generalize V:aO (aa x.blocks)=q3 at *;have af:=Hd V;generalize ai:aO (bL x.conns)=q4 at *;have Z:=Hd ai;generalize ae:aO (aI x.place)=q5 at *;have U:=Hd ae;generalize Y:aO (bM x.routes)=q6 at *;have ah:=Hd Y;clear R hq1 hq2 V ai ae Y;have j:=Hd (aB (Below.refl w.heap.size w) (.cells #[.int .i64 x.net.inputs,.slice SA sn sc,.slice LA ln lc,.slice OA on oc,.slice BA bn bc,.slice CA cn cc,.slice PA pn pc,.slice RA rn rc] 46));have Q:=Hd (aG w (.cells #[.int .i64 x.net.inputs,.slice SA sn sc,.slice LA ln lc,.slice OA on oc,.slice BA bn bc,.slice CA cn cc,.slice PA pn pc,.slice RA rn rc] 46));go_enter Tryz.func30,Tryz.ntmps30;go_upto_region 1 with fail;obtain⟨gx,H⟩:∃g,w.heap.size=g:=⟨_,rfl⟩;rw[H]at Q
 (try rw[H])
 clear H;generalize w.alloc (.cells #[.int .i64 x.net.inputs,.slice SA sn sc,.slice LA ln lc,.slice OA on oc,.slice BA bn bc,.slice CA cn cc,.slice PA pn pc,.slice RA rn rc] 46)=W0 at *;have q:=Hd (Below.refl W0.heap.size W0);obtain⟨x0,x1,x2,x3,z⟩:=bA (aF q.1 Q.1);go_wp2_with fail;refine(Di _ x.net.seqs x.net.luts x.net.outs SA LA OA sn sc ln lc on oc _ _ (H0.1.below (aA j.1 q.1)) (by rw[B.1];exact(H1.1.below (aA j.1 q.1))) (by rw[B.1,G.1];exact(H2.1.below (aA j.1 q.1))) au (by rw[B.1,G.1,ad.1];omega) (by have:=u.1;exact⟨by omega,by omega,by omega⟩)).mono ?_;rw[B.1,G.1,ad.1];rintro _ w1 ⟨rfl,b1⟩;have K:=Hd (aA q.1 b1);have ao:¬(k0+(q0:Int)+(q1:Int)+(W:Int)<0):=by omega
 clear b1 z x0 x1 x2 x3;obtain⟨-,-,-,-,x4,z⟩:=Ob (aF K.1 Q.1);go_wp2_with fail;refine(za BA bn bc x.blocks _ _ (H3.1.below (aA j.1 K.1)) (by omega) (by rw[af.1];omega) (by have:=u.1;omega)).mono ?_;rw[af.1];rintro _ w2 ⟨rfl,b2⟩;have I:=Hd (aA K.1 b2);have av:¬(k0+(q0:Int)+(q1:Int)+(W:Int)+(q3:Int)<0):=by omega
 clear b2 z x4;obtain⟨-,-,-,-,-,x5,z⟩:=Oc (aF I.1 Q.1);go_wp2_with fail;refine(Au CA cn cc x.conns _ _ (H4.1.below (aA j.1 I.1)) (by omega) (by rw[Z.1];omega) (by have:=u.1;omega)).mono ?_;rw[Z.1];rintro _ w3 ⟨rfl,b3⟩;have D:=Hd (aA I.1 b3);have aw:¬(k0+(q0:Int)+(q1:Int)+(W:Int)+(q3:Int)+(q4:Int)<0):=by omega
 clear b3 z x5;obtain⟨-,-,-,-,-,-,x6,z⟩:=Od (aF D.1 Q.1);go_wp2_with fail;refine(mP PA pn pc x.place _ _ (H5.1.below (aA j.1 D.1)) (by omega) (by rw[U.1];omega) (by have:=u.1;omega)).mono ?_;rw[U.1];rintro _ w4 ⟨rfl,b4⟩;have J:=Hd (aA D.1 b4);have aq:¬(k0+(q0:Int)+(q1:Int)+(W:Int)+(q3:Int)+(q4:Int)+(q5:Int)<0):=by omega
 clear b4 z x6;obtain⟨-,-,-,-,-,-,-,x7,z⟩:=Ag (aF J.1 Q.1);go_wp2_with fail;refine(zb RA rn rc x.routes _ _ (H6.1.below (aA j.1 J.1)) (by omega) (by rw[ah.1];omega) (by have:=u.1;omega)).mono ?_;rw[ah.1];rintro _ w5 ⟨rfl,b5⟩;have am:=Hd (aA J.1 b5);have ar:¬(k0+(q0:Int)+(q1:Int)+(W:Int)+(q3:Int)+(q4:Int)+(q5:Int)+(q6:Int)<0):=by omega
 clear b5 z x7;go_wp2;go_ret;exact⟨rfl,aA j.1 am.1⟩
section
variable {H:Type} {enc:TypeId×Value→H} {W:World} {b0 base:Nat} {held:Bool}
theorem Lm{v:Value}{d:DataW H}{p:List MemPlace}(z:Value.okWide Tryz.prog W .any b0 28 v)(h:DataW.Trod enc Tryz.prog W base (fun _=>true) held 28 v d p) :
  ∃(l:aU) (SA LA OA:Oh) (sn sc ln lc on oc:Nat),v=.agg #[.int .i64 l.inputs,.slice SA sn sc,.slice LA ln lc,.slice OA on oc]/\fA W l SA LA OA sn sc ln lc on oc/\BdL l.cells:=by
 obtain⟨cs,ces,rfl,h1,h2⟩:=LK Tryz.underlying28 IM z h;have hb:=h1.bd;obtain⟨l,rfl⟩:=IP h1;unfold aU.cells at h2;obtain⟨B,_,rfl,j,h2⟩:=gU.1 h2;obtain⟨G,_,rfl,g,h2⟩:=gU.1 h2;obtain⟨D,_,rfl,q,h2⟩:=gU.1 h2;obtain⟨I,_,rfl,u,h2⟩:=gU.1 h2;obtain rfl:=jG.1 h2;rw[jJ]at j;subst j;obtain⟨SA,sn,sc,rfl⟩:=gz (e:=91) (s:=3) g;obtain⟨LA,ln,lc,rfl⟩:=gz (e:=96) (s:=2) q;obtain⟨OA,on,oc,rfl⟩:=gz (e:=3) (s:=1) u;exact⟨l,SA,LA,OA,sn,sc,ln,lc,on,oc,rfl,⟨g,q,u⟩,hb⟩
end
theorem aD.fillS{W w w':World}{g:List Pc}{p:Pc}(h:aD W w g)(j:Nat)(hj:g[j]?=some (.cels [] []))(S:aD w w' [p]):aD W w' (g.set j p):=by
 obtain⟨F,k1,k2,k3,z⟩:=h.part j hj;obtain⟨hb,G,⟨B,H,rfl,D,rfl⟩,u,q⟩:=S;rw[List.append_nil]at u q;exact z w' _ B D u (fun k hk => .inr (q k hk)) ⟨hb.os,hb.tape,hb.output,hb.size,fun k hk _=>hb.block k hk⟩
theorem Np{W w w':World}{g:List Pc}{p:Pc}(h:aD W w (.cels [] []::g))(S:aD w w' [p]):aD W w' (p::g):=h.fillS 0 rfl S
theorem Lp{W w w':World}{g:List Pc}{a p:Pc}(h:aD W w (a::.cels [] []::g))(S:aD w w' [p]):aD W w' (a::p::g):=h.fillS 1 rfl S
theorem bx1{W w:World}{a b:Pc}(h:Hv (aD W w [a,b])):aD W (w.alloc (.cells zL 46)) [a,b,.blk w.heap.size zL 46]:=h.1.pushBlk _ _
theorem bx0{W w:World}{a b:Pc}(h:Hv (aD W w [a,b])):aD W (w.alloc (.cells zL 46)).drew [a,b,.blk w.heap.size zL 46]:=(bx1 h).drew
theorem Lr{W w:World}{a b:Pc}{g:Nat}{t:TypeId}(h:aD W w [a,b,.blk g zL t])(q G j H u z B D:Value):aD W ((((((((w.setCell ⟨g,0,none⟩ q).setCell ⟨g,1,none⟩ G).setCell ⟨g,2,none⟩ j).setCell ⟨g,3,none⟩ H).setCell ⟨g,4,none⟩ u).setCell ⟨g,5,none⟩ z).setCell ⟨g,6,none⟩ B).setCell ⟨g,7,none⟩ D) [b,.blk g #[q,G,j,H,u,z,B,D] t]:=by
 have I:=h.put8 2 rfl q G j H u z B D;simp only[zL,List.setIfInBounds_toArray,List.set_cons_zero,List.set_cons_succ]at I;exact I.tail
theorem Ls{W w:World}{a b:Pc}(h:aD W w [a,b])(vs:Array Value)(t:TypeId):aD W (w.alloc (.cells vs t)) [b,.blk w.heap.size vs t]:=aD.tail (h.pushBlk vs t)
abbrev Nq(l:aU)(g q j:Oh)(sn ln on:Nat):Pc := .cels l.cells [.int .i64 l.inputs,.slice g sn sn,.slice q ln ln,.slice j on on]
theorem aD.netAt{W w:World}{q:List Pc}(h:aD W w q)(i:Nat){l:aU}{g u j:Oh}{sn ln on:Nat}(hi:q[i]?=some (Nq l g u j sn ln on)):fA w l g u j sn sn ln ln on on :=
 ⟨h.rdc i 1 hi rfl rfl,h.rdc i 2 hi rfl rfl,h.rdc i 3 hi rfl rfl⟩
theorem Ny(l:aU)(SA LA OA:Oh)(sn sc ln lc on oc:Nat)(w:World)(h:fA w l SA LA OA sn sc ln lc on oc)(u:dI l.cells<=1048576) :
  Calls Tryz.prog 26 #[ig l SA LA OA sn sc ln lc on oc] w fun e w'=>∃g q j,e=.returned (.agg #[.int .i64 l.inputs,.slice g sn sn,.slice q ln ln,.slice j on on])/\aD w w' [Nq l g q j sn ln on]:=by
 refine(EB SA LA OA sn sc ln lc on oc l w h.sq h.lt h.ou u).mono ?_;rintro e w' ⟨g,q,j,rfl,h1,h2⟩;exact⟨g,q,j,rfl,(aD.nil (Below.refl w.heap.size w)).pushLs h2 h1⟩
abbrev NJ(x:Lay)(R:LRs):Array Value:=#[.int .i64 x.net.inputs,.slice R.A1 R.n1 R.c1,.slice R.A2 R.n2 R.c2,.slice R.A3 R.n3 R.c3,.slice R.A4 R.n4 R.c4,.slice R.A5 R.n5 R.c5,.slice R.A6 R.n6 R.c6,.slice R.A7 R.n7 R.c7]
def Dj(W:World)(x:Lay)(j:Int)(p u:Value)(w':World):Prop:=∃g R,p=.pointer (some ⟨g,0,none⟩)/\u=.int .i64 j/\aD W w' [Kj x R,.blk g #[.int .i64 x.net.inputs,.slice R.A1 R.n1 R.c1,.slice R.A2 R.n2 R.c2,.slice R.A3 R.n3 R.c3,.slice R.A4 R.n4 R.c4,.slice R.A5 R.n5 R.c5,.slice R.A6 R.n6 R.c6,.slice R.A7 R.n7 R.c7] 46]
theorem xF{W w:World}{x:Lay}{R:LRs}{j:Int}{g:Nat}(h:aD W w [Kj x R,.blk g (NJ x R) 46]):Dj W x j (.pointer (some ⟨g,0,none⟩)) (.int .i64 j) w:=⟨g,R,rfl,rfl,h⟩
structure Lu(x:Lay)(B:Nat):Prop where
 sq:x.net.seqs.length<=B
 lt:x.net.luts.length<=B
 ou:x.net.outs.length<=B
 bl:x.blocks.length<=B
 cn:x.conns.length<=B
 pl:x.place.length<=B
 ro:x.routes.length<=B
theorem OP{x:Lay}{B:Nat}(h:dI x.cells<=B):Lu x B:=by
 unfold Lay.cells aU.cells at h;simp only[List.cons_append,List.nil_append,dD,dG,gJ,pE]at h;have h1:=d9 (e:=91) Sq.cells_length (by omega) x.net.seqs;have h2:=d9 (e:=96) Lt.cells_length (by omega) x.net.luts;have j:=d9 (e:=89) Blk.cells_length (by omega) x.blocks;have g:=d9 (e:=158) Cn.cells_length (by omega) x.conns;have q:=d9 (e:=114) Rou.cells_length (by omega) x.routes;change szC (aY x.net.seqs)=_ at h1;change szC (aj x.net.luts)=_ at h2;change szC (aa x.blocks)=_ at j;change szC (bL x.conns)=_ at g;change szC (bM x.routes)=_ at q;exact⟨by omega,by omega,by omega,by omega,by omega,by omega,by omega⟩
theorem Ib(x:Lay)(R Q:LRs)(W w:World)(g:List Pc)(i j:Nat)(h:aD W w g)(hi:g[i]?=some (Kj x R))(hj:g[j]?=some (Kj x Q))(q:dI x.cells<=1099511627776) :
  Calls Tryz.prog 12 #[.agg #[.int .i64 x.net.inputs,.slice R.A1 R.n1 R.c1,.slice R.A2 R.n2 R.c2,.slice R.A3 R.n3 R.c3,.slice R.A4 R.n4 R.c4,.slice R.A5 R.n5 R.c5,.slice R.A6 R.n6 R.c6,.slice R.A7 R.n7 R.c7],.agg #[.int .i64 x.net.inputs,.slice Q.A1 Q.n1 Q.c1,.slice Q.A2 Q.n2 Q.c2,.slice Q.A3 Q.n3 Q.c3,.slice Q.A4 Q.n4 Q.c4,.slice Q.A5 Q.n5 Q.c5,.slice Q.A6 Q.n6 Q.c6,.slice Q.A7 Q.n7 Q.c7]] w fun e w'=>e=.returned (.bool true)/\Below w.heap.size w w' :=
 zg _ _ _ _ _ _ _ _ _ _ _ _ _ _ _ _ _ _ _ _ _ _ _ _ _ _ _ _ _ _ _ _ _ _ _ _ _ _ _ _ _ _ x w (h.rdc i 1 hi rfl rfl) (h.rdc j 1 hj rfl rfl) (h.rdc i 2 hi rfl rfl) (h.rdc j 2 hj rfl rfl) (h.rdc i 3 hi rfl rfl) (h.rdc j 3 hj rfl rfl) (h.rdc i 4 hi rfl rfl) (h.rdc j 4 hj rfl rfl) (h.rdc i 5 hi rfl rfl) (h.rdc j 5 hj rfl rfl) (h.rdc i 6 hi rfl rfl) (h.rdc j 6 hj rfl rfl) (h.rdc i 7 hi rfl rfl) (h.rdc j 7 hj rfl rfl) q
theorem Lu.ns{x:Lay}{R:LRs}{W w:World}{g:List Pc}{i B:Nat}(hl:Lu x B)(h:aD W w g)(hi:g[i]?=some (Kj x R)):(R.n1<=B/\R.n2<=B/\R.n3<=B/\R.n4<=B/\R.n5<=B/\R.n6<=B/\R.n7<=B):=by
 have h1:=(h.rdc i 1 hi rfl rfl).sqN';have h2:=(h.rdc i 2 hi rfl rfl).lutN';have h3:=(h.rdc i 3 hi rfl rfl).ints.1;have q:=(h.rdc i 4 hi rfl rfl).blkN;have z:=(h.rdc i 5 hi rfl rfl).cnN;have I:=(h.rdc i 6 hi rfl rfl).ints.1;have H:=(h.rdc i 7 hi rfl rfl).rouN;obtain⟨j,D,u,K,J,G,Q⟩:=hl;omega
end Go.Proofs.YtofihjoanjkdmaaGreat
