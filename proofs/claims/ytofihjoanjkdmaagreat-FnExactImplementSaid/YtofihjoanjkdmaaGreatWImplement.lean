/- The walk of the law FnExactImplement (printed by mkimw.py). -/
import Derived.Test.YtofihjoanjkdmaaGreatImpL
namespace Go.Proofs.YtofihjoanjkdmaaGreat
set_option maxHeartbeats 16000000
set_option maxRecDepth 100000
open Go.RowKit
theorem Aj(l:aU)(SA LA OA:Oh)(sn sc ln lc on oc:Nat)(a1:Dev)(a2 a3:Int)(w:World)(h:fA w l SA LA OA sn sc ln lc on oc)(bp:BdL l.cells)(_hw1:a1.wf)(_hw2:Wf a2)(_hw3:Wf a3) :
  Calls Tryz.prog 6 #[ig l SA LA OA sn sc ln lc on oc,.agg (dv a1),.int .i64 a2,.int .i64 a3] w fun e w'=>e=.returned (.bool true)/\Below w.heap.size w w':=by
 obtain⟨HN,bP⟩:=hd2 h bp;clear h bp;have bC:=Hd (aB (aB (Below.refl w.heap.size w) (.cells #[.int .i64 l.inputs,.slice SA sn sc,.slice LA ln lc,.slice OA on oc] 28)) (.cells (dv a1) 23));have hx:=dP (.cells (dv a1) 23) (aG w (.cells #[.int .i64 l.inputs,.slice SA sn sc,.slice LA ln lc,.slice OA on oc] 28));have hy:=aG (w.alloc (.cells #[.int .i64 l.inputs,.slice SA sn sc,.slice LA ln lc,.slice OA on oc] 28)) (.cells (dv a1) 23);simp only[World.size_alloc]at hy;obtain⟨af,al⟩:=hd2 hx hy;clear hx hy;go_enter Tryz.func6,Tryz.ntmps6;go_upto_region 1 with fail;obtain⟨gX,a8⟩:∃g,w.heap.size=g:=⟨_,rfl⟩;obtain⟨gY,a4⟩:∃g,gX+1=g:=⟨_,rfl⟩;generalize (w.alloc (.cells #[.int .i64 l.inputs,.slice SA sn sc,.slice LA ln lc,.slice OA on oc] 28)).alloc (.cells (dv a1) 23)=W9 at *;rw[a8]at af al;rw[a4]at al
 (try rw[a8])
 (try rw[a4])
 clear a8 a4;obtain⟨x0,x1,x2,x3,lx⟩:=bA (aF (Below.refl W9.heap.size W9) af.1);go_wp2_with fail;have K0:=Hd (HN.1.below bC.1);refine(D8 SA LA OA sn sc ln lc on oc l 1048576 _ K0.1.sq K0.1.lt K0.1.ou (by omega) (by omega) bP.1).mono ?_;rintro e w1 ⟨rfl,b1⟩;have a5:=Hd (aA bC.1 b1);have J:=Hd b1;clear x0 x1 x2 x3 lx b1 K0;by_cases g1:(dI l.cells:Int)<=1048576;rotate_left
 ·rw[eH g1];go_wp2;go_ret;exact⟨rfl,a5.1⟩
 rw[fV g1];have hz:dI l.cells<=1048576:=by omega
 have HZ:=Hd hz;have aC:=Nk (d:=a1) (sd:=a2) (mv:=a3) hz;obtain⟨X,hX⟩:∃X,(impD l a1 a2 a3).1=X:=⟨_,rfl⟩;obtain⟨H,aS⟩:∃c,(impD l a1 a2 a3).2=c:=⟨_,rfl⟩;rw[hX]at aC;have aq:=Hd aC;have bR:=Hd (OP aC);have bQ:=Hd (Na X)
 have bN:=Hd (fun(v:World) (B0 J B2:Oh) (h:fA v l B0 J B2 sn sn ln ln on on)=>(by
  have h2:=zZ l a1 a2 a3 B0 J B2 sn sn ln ln on on v h
  rwa[hX,aS]at h2:Calls Tryz.prog 25 #[ig l B0 J B2 sn sn ln ln on on,.agg (dv a1),.int .i64 a2,.int .i64 a3] v fun e w'=>yw v w' e X H))
 have bq:=Hd (fun(v:World) (B0 J B2:Oh) (h:fA v l B0 J B2 sn sn ln ln on on)=>(by
  have h2:=BM l a1 a2 a3 B0 J B2 sn sn ln ln on on v h
  rwa[hX,aS]at h2:Calls Tryz.prog 27 #[ig l B0 J B2 sn sn ln ln on on,.agg (dv a1),.int .i64 a2,.int .i64 a3] v fun e w'=>yw v w' e X H))
 clear hX aS aC hz;have ae:=Hd (fun(v:World) (hv:Below w1.heap.size w1 v)=>Ny l SA LA OA sn sc ln lc on oc v (HN.1.below (aA a5.1 hv)) HZ.1);obtain⟨x0,x1,x2,x3,lx⟩:=bA (aF J.1 af.1);obtain⟨y0,y1,y2,y3,ly⟩:=bA (aF J.1 al.1);go_upto_region 5 with fail
 go_cut[10,11] (fun p u w'=>Dj w1 X H p u w')
 case first =>
  have B:=Hd (aD.refl w1).holes;have j:=Hd B.1.drew
  go_region_held3 (fun w'=>Below w1.heap.size w1 w'/\∀b o,b<w1.heap.size→w'.cell? ⟨b,o,none⟩=w1.cell? ⟨b,o,none⟩)
   (first|with_reducible exact⟨G.1.bel,(az G.1.bel).1⟩|with_reducible exact⟨I.1.bel,(az I.1.bel).1⟩|with_reducible exact⟨j.1.bel,(az j.1.bel).1⟩|with_reducible exact⟨(bx0 B).bel,(az (bx0 B).bel).1⟩|with_reducible exact⟨(bx1 j).bel,(az (bx1 j).bel).1⟩)
   ((first
    | (go_at_call 9;(first|with_reducible refine syn j.1 ?_|with_reducible refine syn (bx0 B) ?_|with_reducible refine syn (bx1 j) ?_);intro D;replace j:=Hd D;clear D;(refine(rX a1 _).mono ?_);rintro e wk ⟨rfl,bw⟩;replace j:=Hd (j.1.below bw);(try obtain⟨r0,r1,r2,r3,r4,r5,r6,r7,rf,lr⟩:=pz (j.1.blk 2 rfl).1);clear bw)
    | (go_at_call 26;(first|with_reducible refine syn j.1 ?_|with_reducible refine syn (bx0 B) ?_|with_reducible refine syn (bx1 j) ?_);intro D;replace j:=Hd D;clear D;(refine(ae.1 _ j.1.bel).mono ?_);rintro _ v5 ⟨B0,J,B2,rfl,S5⟩;replace j:=Hd (Np j.1 S5);(try obtain⟨r0,r1,r2,r3,r4,r5,r6,r7,rf,lr⟩:=pz (j.1.blk 2 rfl).1);clear S5)
    | (go_at_call 25;(first|with_reducible refine syn j.1 ?_|with_reducible refine syn (bx1 j) ?_);intro D;replace j:=Hd D;clear D;(refine(bN.1 _ B0 J B2 (j.1.netAt 0 rfl)).mono ?_);rintro _ v7 ⟨R,rfl,S7⟩;replace j:=Hd (Lp j.1 S7);(try obtain⟨r0,r1,r2,r3,r4,r5,r6,r7,rf,lr⟩:=pz (j.1.blk 2 rfl).1);(try(have G:=Hd (Lr j.1 (.int .i64 X.net.inputs) (.slice R.A1 R.n1 R.c1) (.slice R.A2 R.n2 R.c2) (.slice R.A3 R.n3 R.c3) (.slice R.A4 R.n4 R.c4) (.slice R.A5 R.n5 R.c5) (.slice R.A6 R.n6 R.c6) (.slice R.A7 R.n7 R.c7))));(try(have I:=Hd (Ls j.1 (NJ X R) 46)));clear S7)))
  all_goals
   go_wp2;go_meet
   first|with_reducible exact xF I.1|with_reducible exact xF G.1
 clear x0 x1 x2 x3 lx y0 y1 y2 y3 ly;obtain⟨gA,RA,rfl,rfl,D⟩:=hcut;have q:=Hd D;clear D;obtain⟨w2,rfl⟩:∃y,y=wc:=⟨wc,rfl⟩;obtain⟨x0,x1,x2,x3,lx⟩:=bA (aF (aA J.1 q.1.bel) af.1);go_wp2_with fail;refine(ae.1 _ q.1.bel).mono ?_;rintro _ w3 ⟨X0,X1,X2,rfl,S3⟩;have HT:=Hd ((q.1.join S3).pushBlk #[.int .i64 l.inputs,.slice X0 sn sn,.slice X1 ln ln,.slice X2 on on] 41);clear S3 q x0 x1 x2 x3 lx;go_upto_region 7 with fail;obtain⟨gZ,aR⟩:∃g,w3.heap.size=g:=⟨_,rfl⟩;generalize w3.alloc (.cells #[.int .i64 l.inputs,.slice X0 sn sn,.slice X1 ln ln,.slice X2 on on] 41)=w4 at *;rw[aR]at HT
 (try rw[aR])
 clear aR;have q:=HT;clear HT;have OX:=Hd (q.1.netAt 2 rfl);obtain⟨y0,y1,y2,y3,ly⟩:=bA (aF (aA J.1 q.1.bel) al.1);obtain⟨Q,V,W,Y,U⟩:=bA ((q.1.blk 3 rfl).1)
 go_cut[13,14] (fun p u w'=>Dj w4 X H p u w')
 case first =>
  have B:=Hd (aD.refl w4).holes;have j:=Hd B.1.drew
  go_region_held3 (fun w'=>Below w4.heap.size w4 w'/\∀b o,b<w4.heap.size→w'.cell? ⟨b,o,none⟩=w4.cell? ⟨b,o,none⟩)
   (first|with_reducible exact⟨G.1.bel,(az G.1.bel).1⟩|with_reducible exact⟨I.1.bel,(az I.1.bel).1⟩|with_reducible exact⟨j.1.bel,(az j.1.bel).1⟩|with_reducible exact⟨(bx0 B).bel,(az (bx0 B).bel).1⟩|with_reducible exact⟨(bx1 j).bel,(az (bx1 j).bel).1⟩)
   ((first
    | (go_at_call 9;(first|with_reducible refine syn j.1 ?_|with_reducible refine syn (bx0 B) ?_|with_reducible refine syn (bx1 j) ?_);intro D;replace j:=Hd D;clear D;(refine(rX a1 _).mono ?_);rintro e wk ⟨rfl,bw⟩;replace j:=Hd (j.1.below bw);(try obtain⟨r0,r1,r2,r3,r4,r5,r6,r7,rf,lr⟩:=pz (j.1.blk 2 rfl).1);clear bw)
    | (go_at_call 27;(first|with_reducible refine syn j.1 ?_|with_reducible refine syn (bx0 B) ?_|with_reducible refine syn (bx1 j) ?_);intro D;replace j:=Hd D;clear D;(refine(bq.1 _ X0 X1 X2 (OX.1.below j.1.bel)).mono ?_);rintro _ v7 ⟨R,rfl,S7⟩;replace j:=Hd (Lp j.1 S7);(try obtain⟨r0,r1,r2,r3,r4,r5,r6,r7,rf,lr⟩:=pz (j.1.blk 2 rfl).1);(try(have G:=Hd (Lr j.1 (.int .i64 X.net.inputs) (.slice R.A1 R.n1 R.c1) (.slice R.A2 R.n2 R.c2) (.slice R.A3 R.n3 R.c3) (.slice R.A4 R.n4 R.c4) (.slice R.A5 R.n5 R.c5) (.slice R.A6 R.n6 R.c6) (.slice R.A7 R.n7 R.c7))));(try(have I:=Hd (Ls j.1 (NJ X R) 46)));clear S7)))
  all_goals
   go_wp2;go_meet
   first|with_reducible exact xF I.1|with_reducible exact xF G.1
 clear y0 y1 y2 y3 ly Q V W Y U;obtain⟨gB,z,rfl,rfl,D⟩:=hcut;have HT:=Hd (q.1.join D);clear D q OX;obtain⟨w5,rfl⟩:∃y,y=wc:=⟨wc,rfl⟩;have q:=HT;clear HT;have bB:=Hd (bR.1.ns (i:=4) q.1 rfl);obtain⟨Q,V,W,Y,z4,z5,z6,z7,U⟩:=Ag ((q.1.blk 5 rfl).1);obtain⟨u0,u1,u2,u3,u4,u5,u6,u7,lu⟩:=Ag ((q.1.blk 1 rfl).1);go_wp2_with fail;refine(Ib X z RA _ _ _ 4 0 q.1 rfl rfl (by have:=aq.1;omega)).mono ?_;rintro _ w6 ⟨rfl,b6⟩;replace q:=Hd (q.1.below b6);clear b6 Q V W Y z4 z5 z6 z7 U u0 u1 u2 u3 u4 u5 u6 u7 lu;have cj:(H != H)=false:=by simp
 go_upto_region 10 with fail;obtain⟨x0,x1,x2,x3,lx⟩:=bA (aF (aA J.1 q.1.bel) af.1);obtain⟨Q,V,W,Y,U⟩:=bA ((q.1.blk 3 rfl).1);have OX:=Hd (q.1.netAt 2 rfl);have hD:=(Below.refl w6.heap.size w6).drew
 go_region_held3 (fun w'=>Below w6.heap.size w6 w'/\∀b o,b<w6.heap.size→w'.cell? ⟨b,o,none⟩=w6.cell? ⟨b,o,none⟩)
  (first|exact⟨hD,(az hD).1⟩)
  ((first
   | (go_at_call 26;(refine(ae.1 _ (aA q.1.bel hD)).mono ?_);rintro _ v3 ⟨C0,C1,C2,rfl,S3⟩;have O6:=Hd (S3.netAt 0 rfl);replace hD:=aA hD S3.bel;clear S3)
   | (go_at_call 28;(refine(sj X0 C0 X1 C1 X2 C2 sn sn sn sn ln ln ln ln on on on on l _ (OX.1.below hD).sq O6.1.sq (OX.1.below hD).lt O6.1.lt (OX.1.below hD).ou O6.1.ou (by have:=HZ.1;omega)).mono ?_);rintro _ v7 ⟨rfl,b7⟩;replace hD:=aA hD b7;clear b7)))
 clear x0 x1 x2 x3 lx Q V W Y U OX O6;replace q:=Hd (q.1.below hD);obtain⟨w7,rfl⟩:∃y,y=v7:=⟨v7,rfl⟩;clear hD;obtain⟨Q,V,W,Y,U⟩:=bA ((q.1.blk 3 rfl).1)
 have au:aO (aY l.seqs)+aO (aj l.luts)+aO (aI l.outs)<=4194304:=by
  have h1:=Mh l.seqs;have h2:=Mj l.luts;have h3:=mX l.outs;have h4:=HZ.1
  unfold aU.cells at h4;simp only[dD,dG,gJ]at h4;omega
 go_wp2_with fail;refine(uC _ _ X0 X1 X2 sn sn ln ln on on l.seqs l.luts l.outs [] _ [] _ _ 2 1 _ q.1 rfl (by omega) (by omega)).mono ?_;rintro _ w8 ⟨rfl,t8⟩;replace q:=Hd t8;clear t8 Q V W Y U;obtain⟨K,hK⟩:∃K:Int,1+(aO (aY l.seqs):Int)+(aO (aj l.luts):Int)+(aO (aI l.outs):Int)=K:=⟨_,rfl⟩;have co:¬K<0:=by omega
 rw[hK];clear hK au;obtain⟨Q,V,W,Y,z4,z5,z6,z7,U⟩:=Ag ((q.1.blk 5 rfl).1);obtain⟨u0,u1,u2,u3,u4,u5,u6,u7,lu⟩:=Ag ((q.1.blk 1 rfl).1);go_wp2_with fail;refine(Ib X z RA _ _ _ 4 0 q.1 rfl rfl (by have:=aq.1;omega)).mono ?_;rintro _ w9 ⟨rfl,b9⟩;replace q:=Hd (q.1.below b9);clear b9 Q V W Y z4 z5 z6 z7 U u0 u1 u2 u3 u4 u5 u6 u7 lu;obtain⟨Q,V,W,Y,z4,z5,z6,z7,U⟩:=Ag ((q.1.blk 5 rfl).1);have au:aO (aY X.net.seqs)+aO (aj X.net.luts)+aO (aI X.net.outs)+aO (aa X.blocks)+aO (bL X.conns)+aO (aI X.place)+aO (bM X.routes)<=16777216:=by have h1:=bQ.1;have h2:=aq.1;omega
 have bx:=Hd au;go_wp2_with fail;refine(AV _ X z.A1 z.A2 z.A3 z.A4 z.A5 z.A6 z.A7 z.n1 z.c1 z.n2 z.c2 z.n3 z.c3 z.n4 z.c4 z.n5 z.c5 z.n6 z.c6 z.n7 z.c7 _ _ 4 1 _ q.1 rfl (by omega) (by omega)).mono ?_;rintro _ cn ⟨rfl,bk⟩;replace q:=Hd bk;clear bk Q V W Y z4 z5 z6 z7 U;obtain⟨M,hM⟩:∃M:Int,(1:Int)+(aO (aY X.net.seqs):Int)+(aO (aj X.net.luts):Int)+(aO (aI X.net.outs):Int)+(aO (aa X.blocks):Int)+(aO (bL X.conns):Int)+(aO (aI X.place):Int)+(aO (bM X.routes):Int)=M:=⟨_,rfl⟩;have cd:¬M<0:=by omega
 rw[hM];have HM:=Hd hM;clear hM au;obtain⟨Q,V,W,Y,z4,z5,z6,z7,U⟩:=Ag ((q.1.blk 5 rfl).1);go_wp2_with fail;refine(wC X z.A1 z.A2 z.A3 z.A4 z.A5 z.A6 z.A7 z.n1 z.c1 z.n2 z.c2 z.n3 z.c3 z.n4 z.c4 z.n5 z.c5 z.n6 z.c6 z.n7 z.c7 1 _ (q.1.rdc 4 1 rfl rfl rfl) (q.1.rdc 4 2 rfl rfl rfl) (q.1.rdc 4 3 rfl rfl rfl) (q.1.rdc 4 4 rfl rfl rfl) (q.1.rdc 4 5 rfl rfl rfl) (q.1.rdc 4 6 rfl rfl rfl) (q.1.rdc 4 7 rfl rfl rfl) (by omega) (by have:=bx.1;omega) (by have:=bB.1;omega)).mono ?_;rw[HM.1];rintro _ Z ⟨rfl,bf⟩;replace q:=Hd (q.1.below bf);clear bf Q V W Y z4 z5 z6 z7 U;obtain⟨x0,x1,x2,x3,lx⟩:=bA (aF (aA J.1 q.1.bel) af.1);obtain⟨y0,y1,y2,y3,ly⟩:=bA (aF (aA J.1 q.1.bel) al.1);have bE:=q.1.bel;have bK:=ae;clear ae;have ae:=Hd (fun(v:World) (hv:Below Z.heap.size Z v)=>bK.1 v (aA bE hv));clear bE;go_upto_region 24 with fail
 go_cut[18,19] (fun p u w'=>Dj Z X H p u w')
 case first =>
  have B:=Hd (aD.refl Z).holes;have j:=Hd B.1.drew
  go_region_held3 (fun w'=>Below Z.heap.size Z w'/\∀b o,b<Z.heap.size→w'.cell? ⟨b,o,none⟩=Z.cell? ⟨b,o,none⟩)
   (first|with_reducible exact⟨G.1.bel,(az G.1.bel).1⟩|with_reducible exact⟨I.1.bel,(az I.1.bel).1⟩|with_reducible exact⟨j.1.bel,(az j.1.bel).1⟩|with_reducible exact⟨(bx0 B).bel,(az (bx0 B).bel).1⟩|with_reducible exact⟨(bx1 j).bel,(az (bx1 j).bel).1⟩)
   ((first
    | (go_at_call 9;(first|with_reducible refine syn j.1 ?_|with_reducible refine syn (bx0 B) ?_|with_reducible refine syn (bx1 j) ?_);intro D;replace j:=Hd D;clear D;(refine(rX a1 _).mono ?_);rintro e wk ⟨rfl,bw⟩;replace j:=Hd (j.1.below bw);(try obtain⟨r0,r1,r2,r3,r4,r5,r6,r7,rf,lr⟩:=pz (j.1.blk 2 rfl).1);clear bw)
    | (go_at_call 26;(first|with_reducible refine syn j.1 ?_|with_reducible refine syn (bx0 B) ?_|with_reducible refine syn (bx1 j) ?_);intro D;replace j:=Hd D;clear D;(refine(ae.1 _ j.1.bel).mono ?_);rintro _ v5 ⟨B0,J,B2,rfl,S5⟩;replace j:=Hd (Np j.1 S5);(try obtain⟨r0,r1,r2,r3,r4,r5,r6,r7,rf,lr⟩:=pz (j.1.blk 2 rfl).1);clear S5)
    | (go_at_call 27;(first|with_reducible refine syn j.1 ?_|with_reducible refine syn (bx1 j) ?_);intro D;replace j:=Hd D;clear D;(refine(bq.1 _ B0 J B2 (j.1.netAt 0 rfl)).mono ?_);rintro _ v7 ⟨R,rfl,S7⟩;replace j:=Hd (Lp j.1 S7);(try obtain⟨r0,r1,r2,r3,r4,r5,r6,r7,rf,lr⟩:=pz (j.1.blk 2 rfl).1);(try(have G:=Hd (Lr j.1 (.int .i64 X.net.inputs) (.slice R.A1 R.n1 R.c1) (.slice R.A2 R.n2 R.c2) (.slice R.A3 R.n3 R.c3) (.slice R.A4 R.n4 R.c4) (.slice R.A5 R.n5 R.c5) (.slice R.A6 R.n6 R.c6) (.slice R.A7 R.n7 R.c7))));(try(have I:=Hd (Ls j.1 (NJ X R) 46)));clear S7)))
  all_goals
   go_wp2;go_meet
   first|with_reducible exact xF I.1|with_reducible exact xF G.1
 clear x0 x1 x2 x3 lx y0 y1 y2 y3 ly;obtain⟨gH,RH,rfl,rfl,D⟩:=hcut;have HT:=Hd (q.1.join D);clear D q;obtain⟨cm,rfl⟩:∃y,y=wc:=⟨wc,rfl⟩;have q:=HT;clear HT;obtain⟨Q,V,W,Y,z4,z5,z6,z7,U⟩:=Ag ((q.1.blk 7 rfl).1);obtain⟨u0,u1,u2,u3,u4,u5,u6,u7,lu⟩:=Ag ((q.1.blk 1 rfl).1);go_wp2_with fail;refine(Ib X RH RA _ _ _ 6 0 q.1 rfl rfl (by have:=aq.1;omega)).mono ?_;rintro _ ci ⟨rfl,bh⟩;replace q:=Hd (q.1.below bh);clear bh Q V W Y z4 z5 z6 z7 U u0 u1 u2 u3 u4 u5 u6 u7 lu;obtain⟨Q,V,W,Y,z4,z5,z6,z7,U⟩:=Ag ((q.1.blk 5 rfl).1);go_wp2_with fail;refine(wC X z.A1 z.A2 z.A3 z.A4 z.A5 z.A6 z.A7 z.n1 z.c1 z.n2 z.c2 z.n3 z.c3 z.n4 z.c4 z.n5 z.c5 z.n6 z.c6 z.n7 z.c7 1 _ (q.1.rdc 4 1 rfl rfl rfl) (q.1.rdc 4 2 rfl rfl rfl) (q.1.rdc 4 3 rfl rfl rfl) (q.1.rdc 4 4 rfl rfl rfl) (q.1.rdc 4 5 rfl rfl rfl) (q.1.rdc 4 6 rfl rfl rfl) (q.1.rdc 4 7 rfl rfl rfl) (by omega) (by have:=bx.1;omega) (by have:=bB.1;omega)).mono ?_;rw[HM.1];rintro _ cf ⟨rfl,bm⟩;replace q:=Hd (q.1.below bm);clear bm Q V W Y z4 z5 z6 z7 U;go_wp2;go_ret;exact⟨rfl,aA a5.1 q.1.bel⟩
end Go.Proofs.YtofihjoanjkdmaaGreat
