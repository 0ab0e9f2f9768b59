/- A truth value as a number. -/
import Derived.Test.YtofihjoanjkdmaaGreatPackF
namespace Go.Proofs.YtofihjoanjkdmaaGreat
set_option maxHeartbeats 8000000
set_option maxRecDepth 100000
open Go.RowKit
theorem rV(b:Bool)(w:World) :
  Calls Tryz.prog 160 #[.bool b] w fun e w'=>e=.returned (.int .i64 (if b then 1 else 0))/\w=w':=by
 cases b with
 | true =>
  go_enter Tryz.func160,Tryz.ntmps160;go_wp2;go_ret
  exact⟨rfl,rfl⟩
 | false =>
  go_enter Tryz.func160,Tryz.ntmps160;go_wp2;go_ret;exact⟨rfl,rfl⟩
theorem Iq(l:aU)(SA LA OA:Oh)(sn sc ln lc on oc:Nat)(w:World)(hN:fA w l SA LA OA sn sc ln lc on oc)(hf:bJ l) :
  Calls Tryz.prog 157 #[ig l SA LA OA sn sc ln lc on oc] w fun e w'=>∃A n c,e=.returned (.slice A n c)/\aD w w' [.cel (ay (els l)) (.slice A n c)]:=by
 obtain⟨a9,bg,cn⟩:=hN.lens;have cX:sn<=12:=by rw[←a9];exact hf.nseq
 have cT:ln<=400:=by rw[←bg];exact hf.nlut
 have cO:=hf.inp;obtain⟨bD,ck,HN,HF⟩:=hd4 a9 bg hN hf;have b4:Hv ((l.first:Int)=1+l.inputs+(sn:Int)):=Hd<|by show _=_;unfold aU.first;omega
 have bv:Hv ((l.count:Int)=1+l.inputs+(sn:Int)+(ln:Int)):=Hd<|by show _=_;unfold aU.count aU.first;omega
 obtain⟨R,bp,br,bH,bF⟩:=info_parts tL;have j:=Hd (show Tryz.prog.info? 94=some R/\R.zero=some (.agg #[.int .i64 0,.int .i64 0])/\R.size=2/\R.bytes=16 from⟨bp,br,bH,bF⟩);clear hN hf a9 bg cn bp br bH bF;have D:=Hd (aB (Below.refl w.heap.size w) (.cells (bX l SA LA OA sn sc ln lc on oc) 41));have G:=Hd (aG w (.cells (bX l SA LA OA sn sc ln lc on oc) 41));go_enter Tryz.func157,Tryz.ntmps157;go_upto_region 1 with fail;obtain⟨gN,aT⟩:∃g,w.heap.size=g:=⟨_,rfl⟩;generalize w.alloc (.cells (bX l SA LA OA sn sc ln lc on oc) 41)=Q at *;rw[aT]at G
 (try rw[aT])
 clear aT;have ar:=Hd ((aD.nil (Below.refl Q.heap.size Q)).pushNew 94 2);go_upto_region 2 with fail;obtain⟨gO,aS⟩:∃g,Q.heap.size=g:=⟨_,rfl⟩;rw[aS]at ar
 (try rw[aS])
 clear aS;generalize Q.alloc (.cells #[] 94)=w0 at *;obtain⟨n0,n1,n2,n3,z⟩:=bA (aF ar.1.bel G.1);go_wp2_with fail;refine(yE l SA LA OA sn sc ln lc on oc _ (HN.1.below (aA D.1 ar.1.bel)) HF.1).mono ?_;rintro _ w1 ⟨UA,rfl,o1,b1⟩;have ap:=Hd (ar.1.pushOwn b1 o1);obtain⟨U,hU⟩:∃U,aK l.count (fw l)=U:=⟨_,rfl⟩;obtain⟨C,hC⟩:∃C,l.count=C:=⟨_,rfl⟩;obtain⟨ca,a7⟩:=hd2 hU hC;rw[hU]at ap;rw[hC]at ap
 (try rw[hC])
 have cQ:1<=C/\C<=440:=by have h1:=bv.1;have h2:=a7.1;omega
 clear o1 b1 hU hC ar n0 n1 n2 n3 z;obtain⟨n0,n1,n2,n3,z⟩:=bA (aF ap.1.bel G.1);have ci:=fun W=>jc ln (by omega) W;have a2:=ap.1.pushRowB ln;go_upto_region 4 with fail;obtain⟨gT,aP⟩:∃g,w1.heap.size=g:=⟨_,rfl⟩;rw[aP]at a2
 (try rw[aP])
 have b9:Hv (aD Q (w1.alloc (.cells (madeCells #[.bool false] ln) 4)) [.cel (aI U) (.slice UA C C),eO gT ln (jA l U 0),.cel (ay (kZ l U 0)) (.slice (some ⟨gO,0,none⟩) 0 0)]):=Hd (a2.perm (List.perm_append_comm (l₁:=[_]) (l₂:=[_,_])));clear aP a2 ci ap;generalize w1.alloc (.cells (madeCells #[.bool false] ln) 4)=w2 at *;clear n0 n1 n2 n3 z;go_wp2
 go_loopw[3,6] (fun v i wr=>∃(q:Nat) (A:Oh) (n c:Nat),q<=sn/\n<=q/\i=.int .i64 (q:Int)/\v=.slice A n c/\aD Q wr [.cel (aI U) (.slice UA C C),eO gT ln (jA l U q),.cel (ay (kZ l U q)) (.slice A n c)]) (fun _ i _=>sn-(intOf i).toNat)
 ·exact⟨0,some ⟨gO,0,none⟩,0,0,by omega,by omega,rfl,rfl,b9.1⟩
 obtain⟨q,A,n,c,hq,cS,rfl,rfl,hs⟩:=hrel;have J:=Hd hs;clear hs;by_cases a5:q<sn
 ·have ce:=dT (by omega:q<sn);have bc:q<l.seqs.length:=by rw[bD.1];exact a5
  obtain⟨sb,so,IA,im,ic,bI,av,d0,d1,d2,rI⟩:=HN.1.sq.sq' (k:=q) bc;obtain⟨b0,bq,bM⟩:=wN HF.1 bc;have bN:=Hd rI.ints;have cd:1<=im:=by rw[←bN.1.1];exact bM
  obtain⟨bi,oi,aZ,a6,bm⟩:=bN.1.2 cd;have cx:=bm 0 (by omega);rw[Nat.add_zero]at cx;have aQ:kZ l U (q+1)=if(l.seqs[q]?.getD Sq.zero).kind=0 then kZ l U q++[elF l U q]else kZ l U q:=rfl
  have bf:jA l U (q+1)=if(l.seqs[q]?.getD Sq.zero).kind=0/\ffT l U q then jA l U q++[ffK l q]else jA l U q:=rfl
  have hF:elF l U q=⟨if ffT l U q then ffK l q else -1,(q:Int)⟩:=rfl;have hT:ffT l U q↔0<=ffK l q/\U[(ql l q).toNat]?.getD 0=1:=Iff.rfl;have hK:ffK l q=ql l q-(1+l.inputs+(sn:Int)):=by unfold ffK;rw[b4.1]
  have bT:ql l q=(l.seqs[q]?.getD Sq.zero).ins[0]?.getD 0:=rfl;rw[←bT]at cx;obtain⟨X,hX⟩:∃X:Nat,ql l q=(X:Int):=⟨_,(Int.toNat_of_nonneg b0).symm⟩;rw[hX]at cx hT hK bq;rw[Int.toNat_natCast]at hT;generalize ffK l q=KK at *;generalize (l.seqs[q]?.getD Sq.zero).kind=kd at *;generalize (l.seqs[q]?.getD Sq.zero).init=it at *;obtain⟨V,az⟩:∃y,kZ l U q=y:=⟨_,rfl⟩;obtain⟨TK,bt⟩:∃y,jA l U q=y:=⟨_,rfl⟩;rw[az]at aQ J;rw[bt]at bf J;have aX:=Hd (aA D.1 J.1.bel);have bR:Hv (∀v,Below w.heap.size w v→v.cell? ⟨bi,oi,none⟩=some (.int .i64 (X:Int))):=Hd<|fun v hv=>(hv.cell (p:=⟨bi,oi,none⟩) a6).trans cx
  have cl:Hv (∀v,Below w.heap.size w v→v.cell? ⟨sb,so+q*3,none⟩=some (.int .i64 kd)):=Hd<|fun v hv=>(hv.cell (p:=⟨sb,so+q*3,none⟩) av).trans d0
  have bs:Hv (∀v,Below w.heap.size w v→v.cell? ⟨sb,so+q*3+2,none⟩=some (.slice (some ⟨bi,oi,none⟩) im ic)):=Hd<|fun v hv=>(hv.cell (p:=⟨sb,so+q*3+2,none⟩) av).trans (d2.trans (by rw[aZ]))
  have cv:X<C:=by have:=a7.1;omega
  obtain⟨aO,ah,bb,aY,bO,cg,cr⟩:=hd7 aQ bf hF hT hK bI aZ;have cP:-1000<=KK/\KK<(ln:Int):=by have h1:=bO.1;have h2:=bv.1;have h3:=a7.1;omega
  clear d0 d1 d2 aQ bf hF hT hK bT hX bI aZ bm cx az bt rI bq bM bc;obtain rfl:=cg.1;obtain rfl:=cr.1;obtain⟨q0,q1⟩:=ib (by omega:q<sn);have d0:=cl.1 _ aX.1;have Z:=aJ aX.1 av;obtain⟨-,n1,z⟩:=iC (aF J.1.bel G.1);by_cases aE:kd=0
  ·subst aE;have I:Hv (kZ l U (q+1)=V++[elF l U q]):=Hd<|by show _=_;rw[aO.1];exact if_pos rfl
   have aW:=J.1.pushBlk #[.int .i64 (-1),.int .i64 (q:Int)] 94;go_upto_region 9 with fail;obtain⟨gE,a4⟩:∃g,wr.heap.size=g:=⟨_,rfl⟩;rw[a4]at aW
   (try rw[a4])
   have H:Hv (aD Q (wr.alloc (.cells #[.int .i64 (-1),.int .i64 (q:Int)] 94)) [.cel (aI U) (.slice UA C C),eO gT ln (TK),.cel (ay (V)) (.slice A n c),.blk gE #[.int .i64 (-1),.int .i64 (q:Int)] 94]):=Hd aW;clear a4 aW d0 Z aX J n1 z;generalize wr.alloc (.cells #[.int .i64 (-1),.int .i64 (q:Int)] 94)=W2 at *;obtain⟨n0,n1,n2,n3,z⟩:=bA (aF H.1.bel G.1);have cx:=bR.1 _ (aA D.1 H.1.bel);have ax:=aJ (aA D.1 H.1.bel) a6;have d2:=bs.1 _ (aA D.1 H.1.bel);have Z:=aJ (aA D.1 H.1.bel) av;have b8:=Hd (fun(v:Sub W2)=>rP l.inputs (some ⟨sb,so,none⟩) LA OA sn sc ln lc on oc v.v (by omega) (by omega) (by omega));have cV:(0:Int)<(im:Int):=by omega
   have co:=bO.1.symm;have a3:IntKind.i64.wrap KK=KK:=IntWalk.i64_in _ (by omega);have bz:=dB W2;have b5:=au W2;refine wpB W2 ?_
   repeat(go_big_quiet_step ((first
    | (go_at_call 156;with_reducible exact aV (b8.1 _)))))
   refine wpQuiet_nil ?_;rintro wq ⟨⟨w6,hD⟩,hw⟩;replace hw:wq=w6:=hw;subst hw;have B:=Hd (H.1.below hD);clear bz b5 co a3 cx ax d2 Z hD H n0 n1 n2 n3 z;obtain⟨W3,rfl⟩:∃y,y=wq:=⟨wq,rfl⟩;have hb:=(B.1.blk 3 rfl).1;obtain⟨e0,e1⟩:=cs2 hb;have bd:=aN hb 0;have a8:=aN hb 1;have le:=aH hb;clear hb;obtain⟨-,n1,z⟩:=iC (aF B.1.bel G.1);have cx:=bR.1 _ (aA D.1 B.1.bel);have ax:=aJ (aA D.1 B.1.bel) a6;have d2:=bs.1 _ (aA D.1 B.1.bel);have Z:=aJ (aA D.1 B.1.bel) av;obtain⟨bu,ou,bG,cK,bn⟩:=(B.1.ints 0 rfl).2 (by omega);have cu:=bn X cv;obtain⟨u,hu⟩:∃u,U[X]?.getD 0=u:=⟨_,rfl⟩;rw[hu]at cu;obtain⟨HU,cj⟩:=hd2 hu bG;clear hu bG bn;obtain rfl:=cj.1;obtain⟨X0,X1⟩:=ib (by omega:X<C);by_cases ai:0<=KK
   focus
    have dk:decide (KK≥0)=true:=decide_eq_true ai;by_cases aq:u=1
    ·have du:(u==1)=true:=by simp[aq]
     have bl:Hv (ffT l U q):=Hd<|aY.1.2 ⟨ai,by rw[HU.1];exact aq⟩
     obtain⟨K,rfl⟩:∃K:Nat,KK=(K:Int):=⟨_,(Int.toNat_of_nonneg ai).symm⟩;have am:Hv (elF l U q=⟨(K:Int),(q:Int)⟩):=Hd<|by show _=_;rw[bb.1,if_pos bl.1]
     rw[am.1]at I;have ag:Hv (jA l U (q+1)=TK++[(K:Int)]):=Hd<|by show _=_;rw[ah.1];exact if_pos ⟨rfl,bl.1⟩
     have b3:Hv (aD Q (W3.setCell ⟨gE,0,none⟩ (.int .i64 (K:Int))) [.cel (aI U) (.slice (some ⟨bu,ou,none⟩) C C),eO gT ln (TK),.cel (ay (V)) (.slice A n c),.blk gE #[.int .i64 ((K:Int)),.int .i64 (q:Int)] 94]):=Hd (B.1.put 3 rfl 0 (.int .i64 (K:Int)));obtain⟨K0,K1⟩:=ib (by omega:K<ln);have K2:K<ln:=by omega
     go_upto_region 12 with fail;generalize W3.setCell ⟨gE,0,none⟩ (.int .i64 (K:Int))=W4 at *;obtain⟨t0,tf,⟨_,tl⟩,ht⟩:=b3.1.truth 1 rfl K2;have bK:Hv (aD Q (W4.setCell ⟨gT,K,none⟩ (.bool true)) [.cel (aI U) (.slice (some ⟨bu,ou,none⟩) C C),eO gT ln (TK++[(K:Int)]),.cel (ay (V)) (.slice A n c),.blk gE #[.int .i64 ((K:Int)),.int .i64 (q:Int)] 94]):=Hd ht;clear n1 z d2 Z e0 e1 bd a8 le cx ax cu ht B;go_upto_region 13 with fail;clear t0 tf tl;generalize W4.setCell ⟨gT,K,none⟩ (.bool true)=W5 at *;obtain⟨e0,e1,le⟩:=iC ((bK.1.blk 3 rfl).1)
     go_wp2_with (at_builtin;refine af rfl _ _ 87 94 rfl R _ 2 16 Tryz.underlying87 j.1.1 j.1.2.1 j.1.2.2.1 j.1.2.2.2 rfl (by decide) (by decide) _ ((bK.1.alloc _).consPin ((K:Int)) ((q:Int))) 3 0 (by decide) n c _ A ((V).flatMap LeT.cells) _ #[.int .i64 ((K:Int)),.int .i64 ((q:Int))] _ rfl rfl rfl rfl (aG _ _) rfl (by omega) ?_;intro g9 cap w9 S9 ae)
     have Y:Hv (aD Q w9 (.cels [] []::[.cel (aI U) (.slice (some ⟨bu,ou,none⟩) C C),eO gT ln (TK++[(K:Int)]),.cel (ay (V++[⟨(K:Int),(q:Int)⟩])) (.slice (some ⟨g9,0,none⟩) (n+1) cap),.blk gE #[.int .i64 ((K:Int)),.int .i64 (q:Int)] 94])):=Hd (by have h9:=S9;rw[←nL]at h9;exact h9);clear S9 ae;go_roundw
     ·exact⟨q+1,_,n+1,_,by omega,by omega,by go_num,rfl,by rw[I.1,ag.1];exact Y.1.sub (List.Sublist.cons _ (List.Sublist.cons_cons _ (List.Sublist.cons_cons _ (List.Sublist.cons_cons _ (List.nil_sublist _)))))⟩
     simp[intOf];omega
    have du:(u==1)=false:=by simp[aq]
    have ad:¬ffT l U q:=fun h=>aq (by rw[←HU.1];exact(aY.1.1 h).2);have am:Hv (elF l U q=⟨-1,(q:Int)⟩):=Hd<|by show _=_;rw[bb.1,if_neg ad]
    rw[am.1]at I;have ag:Hv (jA l U (q+1)=TK):=Hd<|by show _=_;rw[ah.1];exact if_neg fun h=>ad h.2
    clear ad aq
   rotate_left
   focus
    have dk:decide (KK≥0)=false:=decide_eq_false ai;have ad:¬ffT l U q:=fun h=>ai (aY.1.1 h).1;have am:Hv (elF l U q=⟨-1,(q:Int)⟩):=Hd<|by show _=_;rw[bb.1,if_neg ad]
    rw[am.1]at I;have ag:Hv (jA l U (q+1)=TK):=Hd<|by show _=_;rw[ah.1];exact if_neg fun h=>ad h.2
    clear ad ai
   all_goals
    go_upto_region 13 with fail;clear n1 z d2 Z e0 e1 bd a8 le cx ax cu;obtain⟨e0,e1,le⟩:=iC ((B.1.blk 3 rfl).1)
    go_wp2_with (at_builtin;refine af rfl _ _ 87 94 rfl R _ 2 16 Tryz.underlying87 j.1.1 j.1.2.1 j.1.2.2.1 j.1.2.2.2 rfl (by decide) (by decide) _ ((B.1.alloc _).consPin (-1) ((q:Int))) 3 0 (by decide) n c _ A ((V).flatMap LeT.cells) _ #[.int .i64 (-1),.int .i64 ((q:Int))] _ rfl rfl rfl rfl (aG _ _) rfl (by omega) ?_;intro g9 cap w9 S9 ae)
    have Y:Hv (aD Q w9 (.cels [] []::[.cel (aI U) (.slice (some ⟨bu,ou,none⟩) C C),eO gT ln (TK),.cel (ay (V++[⟨-1,(q:Int)⟩])) (.slice (some ⟨g9,0,none⟩) (n+1) cap),.blk gE #[.int .i64 (-1),.int .i64 (q:Int)] 94])):=Hd (by have h9:=S9;rw[←nL]at h9;exact h9);clear S9 ae;go_roundw
    ·exact⟨q+1,_,n+1,_,by omega,by omega,by go_num,rfl,by rw[I.1,ag.1];exact Y.1.sub (List.Sublist.cons _ (List.Sublist.cons_cons _ (List.Sublist.cons_cons _ (List.Sublist.cons_cons _ (List.nil_sublist _)))))⟩
    simp[intOf];omega
  have c0:(kd != 0)=true:=by simp[aE]
  have I:Hv (kZ l U (q+1)=V):=Hd<|by show _=_;rw[aO.1];exact if_neg aE
  have ag:Hv (jA l U (q+1)=TK):=Hd<|by show _=_;rw[ah.1];exact if_neg fun h=>aE h.1
  go_wp2;go_roundw
  ·exact⟨q+1,_,n,_,by omega,by omega,by go_num,rfl,by rw[I.1,ag.1];exact J.1⟩
  simp[intOf];omega
 have bS:sn=q:=by omega
 obtain⟨-,n1,z⟩:=iC (aF J.1.bel G.1);have ce:=dF (by omega:sn<=q);obtain⟨TA,bC⟩:∃y,jA l U l.seqs.length=y:=⟨_,rfl⟩;have bL:=Hd bC
 have H:Hv (aD Q wr [.cel (aI U) (.slice UA C C),eO gT ln (TA),.cel (ay (kJ l U 0)) (.slice A n c)]):=Hd<|by
  show aD _ _ _;rw[←bL.1,show kJ l U 0=kZ l U l.seqs.length from rfl,bD.1,bS];exact J.1
 clear bC bS J;go_upto_region 14 with fail;clear n1 z;go_wp2_with fail;obtain⟨wb,rfl⟩:∃y,y=wr:=⟨wr,rfl⟩
 go_loopw[3,9] (fun v i wr=>∃(k:Nat) (A:Oh) (n c:Nat),k<=ln/\n<=k+12/\i=.int .i64 (k:Int)/\v=.slice A n c/\aD Q wr [.cel (aI U) (.slice UA C C),eO gT ln (TA),.cel (ay (kJ l U k)) (.slice A n c)]) (fun _ i _=>ln-(intOf i).toNat)
 ·exact⟨0,A,n,c,by omega,by omega,rfl,rfl,H.1⟩
 obtain⟨k,A,n,c,hk,cZ,rfl,rfl,hs⟩:=hrel;have J:=Hd hs;clear hs;obtain⟨-,-,n2,z⟩:=j6 (aF J.1.bel G.1);by_cases a5:k<ln
 ·have cf:=dT (by omega:k<ln);have be:kJ l U (k+1)=if(k:Int)∈TA then kJ l U k else kJ l U k++[⟨(k:Int),-1⟩]:=by rw[←bL.1];rfl
  obtain⟨V,az⟩:∃y,kJ l U k=y:=⟨_,rfl⟩;rw[az]at be J;have G:=Hd be;clear be az;obtain⟨t0,tf,⟨_,tl⟩,_⟩:=J.1.truth 1 rfl a5;obtain⟨i0,i1⟩:=ib (by omega:k<ln);by_cases hm:(k:Int)∈TA
  ·have dm:decide ((k:Int)∈TA)=true:=decide_eq_true hm;have ak:Hv (kJ l U (k+1)=V):=Hd<|by show _=_;rw[G.1];exact if_pos hm
   rw[dm]at t0;clear hm dm;go_wp2;go_roundw
   ·exact⟨k+1,_,n,_,by omega,by omega,by go_num,rfl,by rw[ak.1];exact J.1⟩
   simp[intOf];omega
  have dm:decide ((k:Int)∈TA)=false:=decide_eq_false hm;have ak:Hv (kJ l U (k+1)=V++[⟨(k:Int),-1⟩]):=Hd<|by show _=_;rw[G.1];exact if_neg hm
  rw[dm]at t0;clear hm dm;go_upto_region 18 with fail;clear t0 tf tl
  go_wp2_with (at_builtin;refine af rfl _ _ 87 94 rfl R _ 2 16 Tryz.underlying87 j.1.1 j.1.2.1 j.1.2.2.1 j.1.2.2.2 rfl (by decide) (by decide) _ ((J.1.alloc _).consPin ((k:Int)) (-1)) 3 0 (by decide) n c _ A ((V).flatMap LeT.cells) _ #[.int .i64 ((k:Int)),.int .i64 (-1)] _ rfl rfl rfl rfl (aG _ _) rfl (by omega) ?_;intro g9 cap w9 S9 ae)
  have Y:Hv (aD Q w9 (.cels [] []::[.cel (aI U) (.slice UA C C),eO gT ln (TA),.cel (ay (V++[⟨(k:Int),-1⟩])) (.slice (some ⟨g9,0,none⟩) (n+1) cap)])):=Hd (by have h9:=S9;rw[←nL]at h9;exact h9);clear S9 ae;go_roundw
  ·exact⟨k+1,_,n+1,_,by omega,by omega,by go_num,rfl,by rw[ak.1];exact Y.1.sub (List.sublist_cons_self _ _)⟩
  simp[intOf];omega
 have bo:ln=k:=by omega
 have cf:=dF (by omega:ln<=k)
 have HR:Hv (aD w wr [.cel (ay (els l)) (.slice A n c)]):=Hd<|by
  have h1:=(J.1.sub (List.Sublist.cons _ (List.Sublist.cons _ (List.Sublist.cons_cons _ (List.nil_sublist _))))).lowerC D.1 (lo:=Q.heap.size) (hi:=Q.heap.size) D.1.size (Nat.le_refl _) (Chg.refl' _ _ _);show aD _ _ _;unfold els;rw[ca.1,ck.1,bo];exact h1
 clear bo;go_wp2;go_ret;exact⟨_,_,_,rfl,HR.1⟩
theorem NQ{l:aU}(hf:bJ l){e:LeT}(he:eB l e):asc ((fD l e++[dM l e]).filter fun x=>decide (0<x/\x∉([]:List Int)))=mF l e:=by
 have h0:∀x∈fD l e++[dM l e],0<x:=fun x hx=>by
  rcases List.mem_append.1 hx with hx|hx
  ·obtain⟨h1,h2⟩:=BZ.1 hx;have:=((qU hf he).2 x h1).1;omega
  rw[List.mem_singleton.1 hx];exact(Jt hf he).1
 rw[List.filter_eq_self.2 fun x hx=>decide_eq_true ⟨h0 x hx,by simp⟩];unfold mF;refine pR (uK _) (Jj (uK _)) fun y=>?_;rw[rM,yj,List.mem_append,List.mem_singleton,or_comm]
theorem MN{l:aU}{e:LeT}{x:Int}:x∈fD l e++[dM l e]↔x∈mF l e:=by
 unfold mF;rw[yj,List.mem_append,List.mem_singleton,or_comm]
theorem BG(l:aU)(SA LA OA:Oh)(sn sc ln lc on oc:Nat)(a b u q:Int)(w:World)(h:fA w l SA LA OA sn sc ln lc on oc)(hf:bJ l)(he:eB l ⟨a,b⟩)(aO:eB l ⟨u,q⟩) :
  Calls Tryz.prog 159 #[ig l SA LA OA sn sc ln lc on oc,.agg #[.int .i64 a,.int .i64 b],.agg #[.int .i64 u,.int .i64 q]] w fun e w'=>e=.returned (.int .i64 (pF l ⟨a,b⟩ ⟨u,q⟩:Int))/\Below w.heap.size w w':=by
 obtain⟨HN,HF,aM,bc⟩:=hd4 h hf he aO;have aT:=Hd (aB (aB (aB (Below.refl w.heap.size w) (.cells (bX l SA LA OA sn sc ln lc on oc) 41)) (.cells #[.int .i64 a,.int .i64 b] 94)) (.cells #[.int .i64 u,.int .i64 q] 94));have h1:=dP (.cells #[.int .i64 u,.int .i64 q] 94) (dP (.cells #[.int .i64 a,.int .i64 b] 94) (aG w (.cells (bX l SA LA OA sn sc ln lc on oc) 41)));have h2:=dP (.cells #[.int .i64 u,.int .i64 q] 94) (aG (w.alloc (.cells (bX l SA LA OA sn sc ln lc on oc) 41)) (.cells #[.int .i64 a,.int .i64 b] 94));have h3:=aG ((w.alloc (.cells (bX l SA LA OA sn sc ln lc on oc) 41)).alloc (.cells #[.int .i64 a,.int .i64 b] 94)) (.cells #[.int .i64 u,.int .i64 q] 94);simp only[World.size_alloc]at h2 h3;obtain⟨U,ao,D⟩:=hd3 h1 h2 h3;clear h hf he aO h1 h2 h3;go_enter Tryz.func159,Tryz.ntmps159;go_upto_region 1 with fail;obtain⟨gN,ag⟩:∃g,w.heap.size=g:=⟨_,rfl⟩;obtain⟨gE,am⟩:∃g,gN+1=g:=⟨_,rfl⟩;obtain⟨gF,ar⟩:∃g,gE+1=g:=⟨_,rfl⟩;generalize ((w.alloc (.cells (bX l SA LA OA sn sc ln lc on oc) 41)).alloc (.cells #[.int .i64 a,.int .i64 b] 94)).alloc (.cells #[.int .i64 u,.int .i64 q] 94)=V at *;rw[ag]at U ao D;rw[am]at ao D;rw[ar]at D
 (try rw[ag])
 (try rw[am])
 (try rw[ar])
 clear ag am ar;obtain⟨aj,aw,ai,aE,au⟩:=bA U.1;obtain⟨bq,bn,a5⟩:=iC ao.1;obtain⟨al,ak,ay⟩:=iC D.1;have K:=aT;have G:=aM;obtain⟨BW,af⟩:∃y,y=V:=⟨_,rfl⟩;have H:=Hd (fun(v:World) (hv:Below V.heap.size V v)=>vN l SA LA OA sn sc ln lc on oc a b v (HN.1.below (aA K.1 hv)) HF.1 G.1);have Z:=Hd (fun(v:World) (hv:Below V.heap.size V v)=>rQ l SA LA OA sn sc ln lc on oc a b v (HN.1.below (aA K.1 hv)) HF.1 G.1);have aq:=Below.refl V.heap.size V;have j:=Hd (aD.refl V).drew;have av:=pG HF.1 G.1;clear af BW;go_upto_region 1 with fail
 go_cut[7] (fun v w'=>∃A n c,v=.slice A n c/\aD V w' [.cel (aI (fD l ⟨a,b⟩++[dM l ⟨a,b⟩])) (.slice A n c)])
 case first =>
  generalize a9:dM l ⟨a,b⟩=W at *;generalize bh:fD l ⟨a,b⟩=xi at *
  go_region_held3 (fun w'=>Below V.heap.size V w'/\∀b o,b<V.heap.size→w'.cell? ⟨b,o,none⟩=V.cell? ⟨b,o,none⟩)
   (first|exact⟨j.1.bel,(az j.1.bel).1⟩|exact⟨(j.1.pushBlk #[.int .i64 W] 3).bel,(az (j.1.pushBlk #[.int .i64 W] 3).bel).1⟩)
   ((first
    | (go_at_call 241;first
     | ((with_reducible refine(H.1 _ j.1.bel).mono ?_);rintro _ v3 ⟨A3,n3,c3,rfl,I,b3⟩;have ah:=I.len;replace j:=Hd (j.1.pushOwn b3 I);clear I b3)
     | ((with_reducible refine(H.1 _ (j.1.pushBlk #[.int .i64 W] 3).bel).mono ?_);rintro _ v3 ⟨A3,n3,c3,rfl,I,b3⟩;have ah:=I.len;replace j:=Hd ((j.1.pushBlk #[.int .i64 W] 3).pushOwn b3 I);clear I b3))
    | (go_at_call 204;(with_reducible refine(Z.1 _ j.1.bel).mono ?_);rintro _ v4 ⟨rfl,b4⟩;replace j:=Hd (j.1.below b4);clear b4)
    | (refine iH rfl _ _ (by rfl) _ (j.1.alloc _) 0 A3 n3 c3 xi W _ (0,0) rfl (by rfl) (by rfl) (aG _ _) (by omega) ?_;intro g9 cap w9 Y J;have B:=Hd Y;replace j:=B;clear Y J)
    | (refine iH rfl _ _ (by rfl) _ j.1 1 A3 n3 c3 xi W _ (0,0) rfl (by rfl) (by rfl) (j.1.blk 0 rfl).1 (by omega) ?_;intro g9 cap w9 Y J;have B:=Hd Y.tail;replace j:=B;clear Y J)))
  all_goals
   go_wp2;go_meet;exact⟨_,_,_,rfl,B.1⟩
 obtain⟨XA,xn,xc,rfl,hx⟩:=hcut;obtain⟨R,rfl⟩:∃y,y=wc:=⟨wc,rfl⟩;have HX:=Hd (hx.ints 0 rfl);have aH:=(hx.ints 0 rfl).1;have K:=Hd (aA aT.1 hx.bel);replace U:=Hd (aF hx.bel U.1);replace D:=Hd (aF hx.bel D.1);have G:=bc;rw[List.length_append,List.length_singleton]at aH;have a6:xn<=5:=by omega
 clear hx aj aw ai aE au bq bn a5 al ak ay j H Z aq av aH;obtain⟨aj,aw,ai,aE,au⟩:=bA U.1;obtain⟨al,ak,ay⟩:=iC D.1;obtain⟨BW,af⟩:∃y,y=R:=⟨_,rfl⟩;have H:=Hd (fun(v:World) (hv:Below R.heap.size R v)=>vN l SA LA OA sn sc ln lc on oc u q v (HN.1.below (aA K.1 hv)) HF.1 G.1);have Z:=Hd (fun(v:World) (hv:Below R.heap.size R v)=>rQ l SA LA OA sn sc ln lc on oc u q v (HN.1.below (aA K.1 hv)) HF.1 G.1);have aq:=Below.refl R.heap.size R;have j:=Hd (aD.refl R).drew;have av:=pG HF.1 G.1;clear af BW;go_upto_region 2 with fail
 go_cut[8] (fun v w'=>∃A n c,v=.slice A n c/\aD R w' [.cel (aI (fD l ⟨u,q⟩++[dM l ⟨u,q⟩])) (.slice A n c)])
 case first =>
  generalize a9:dM l ⟨u,q⟩=W at *;generalize bh:fD l ⟨u,q⟩=xi at *
  go_region_held3 (fun w'=>Below R.heap.size R w'/\∀b o,b<R.heap.size→w'.cell? ⟨b,o,none⟩=R.cell? ⟨b,o,none⟩)
   (first|exact⟨j.1.bel,(az j.1.bel).1⟩|exact⟨(j.1.pushBlk #[.int .i64 W] 3).bel,(az (j.1.pushBlk #[.int .i64 W] 3).bel).1⟩)
   ((first
    | (go_at_call 241;first
     | ((with_reducible refine(H.1 _ j.1.bel).mono ?_);rintro _ v3 ⟨A3,n3,c3,rfl,I,b3⟩;have ah:=I.len;replace j:=Hd (j.1.pushOwn b3 I);clear I b3)
     | ((with_reducible refine(H.1 _ (j.1.pushBlk #[.int .i64 W] 3).bel).mono ?_);rintro _ v3 ⟨A3,n3,c3,rfl,I,b3⟩;have ah:=I.len;replace j:=Hd ((j.1.pushBlk #[.int .i64 W] 3).pushOwn b3 I);clear I b3))
    | (go_at_call 204;(with_reducible refine(Z.1 _ j.1.bel).mono ?_);rintro _ v4 ⟨rfl,b4⟩;replace j:=Hd (j.1.below b4);clear b4)
    | (refine iH rfl _ _ (by rfl) _ (j.1.alloc _) 0 A3 n3 c3 xi W _ (0,0) rfl (by rfl) (by rfl) (aG _ _) (by omega) ?_;intro g9 cap w9 Y J;have B:=Hd Y;replace j:=B;clear Y J)
    | (refine iH rfl _ _ (by rfl) _ j.1 1 A3 n3 c3 xi W _ (0,0) rfl (by rfl) (by rfl) (j.1.blk 0 rfl).1 (by omega) ?_;intro g9 cap w9 Y J;have B:=Hd Y.tail;replace j:=B;clear Y J)))
  all_goals
   go_wp2;go_meet;exact⟨_,_,_,rfl,B.1⟩
 obtain⟨YA,yn,yc,rfl,hy⟩:=hcut;obtain⟨W7,rfl⟩:∃y,y=wc:=⟨wc,rfl⟩;have HY:=Hd (hy.ints 0 rfl);have aY:=(hy.ints 0 rfl).1;have bd:=Hd (aA K.1 hy.bel);replace HX:=Hd (HX.1.below hy.bel);rw[List.length_append,List.length_singleton]at aY;have bC:yn<=5:=by omega
 clear hy aj aw ai aE au al ak ay j H Z aq av aY K U D;have bl:=Hd ((aD.refl W7).pushNew 3 1);have aN:=Hd (NQ HF.1 aM.1);have bp:Hv (∀x,x∈fD l ⟨u,q⟩++[dM l ⟨u,q⟩]↔x∈mF l ⟨u,q⟩):=Hd<|fun x=>MN
 have bj:Hv (pF l ⟨a,b⟩ ⟨u,q⟩=(mF l ⟨a,b⟩).countP fun x=>decide (x∈mF l ⟨u,q⟩)):=Hd<|rfl
 generalize fD l ⟨a,b⟩++[dM l ⟨a,b⟩]=xs at *;generalize fD l ⟨u,q⟩++[dM l ⟨u,q⟩]=ys at *
 have bm:(mF l ⟨a,b⟩).length<=5:=by
  rw[←aN.1];exact Nat.le_trans (iK _) (Nat.le_trans (List.length_filter_le _ _) (by rw[HX.1.1];exact a6))
 go_wp2_with fail;refine(rT XA _ xn xc 0 0 xs [] _ (HX.1.below (aB (Below.refl _ _) _)) (bl.1.ints 0 rfl) (by omega) (by omega)).mono ?_;rw[aN.1];rintro _ w6 ⟨ZA,zn,zc,rfl,oz,bz⟩;have aK:=oz.len;have HZ:=Hd oz.ints;have bs:=Hd (HY.1.below (aA (aB (Below.refl _ _) (.cells #[] 3)) bz));have bk:=Hd (aA bd.1 (aA (aB (Below.refl _ _) (.cells #[] 3)) bz));clear oz bz;generalize mF l ⟨a,b⟩=Q at *;have a0:Hv (Q.length=zn):=Hd<|aK
 rw[aK]at bm;go_wp2
 go_loopw[9,10] (fun nv iv wr=>∃k:Nat,k<=zn/\nv=.int .i64 (((Q.take k).countP (fun x=>decide (x∈mF l ⟨u,q⟩)):Nat):Int)/\iv=.int .i64 (k:Int)/\w6=wr) (fun _ iv _=>zn-(intOf iv).toNat)
 ·exact⟨0,by omega,by simp,rfl,rfl⟩
 obtain⟨k,hk,rfl,rfl,rfl⟩:=hrel;by_cases aP:k<zn
 ·have bb:=dT (by omega:k<zn);have aV:k<Q.length:=by rw[a0.1];exact aP
  obtain⟨bz,oz,aZ,bK,aX⟩:=HZ.1.2 (by omega);have cz:=aX k aP
  have aQ:Hv ((Q.take (k+1)).countP (fun x=>decide (x∈mF l ⟨u,q⟩))=(Q.take k).countP (fun x=>decide (x∈mF l ⟨u,q⟩))+if Q[k]?.getD 0∈mF l ⟨u,q⟩then 1 else 0):=Hd<|by
   show _=_;rw[bF (z:=0) aV,List.countP_append,List.countP_singleton];simp
  have bB:(Q.take k).countP (fun x=>decide (x∈mF l ⟨u,q⟩))<=k:=Nat.le_trans List.countP_le_length (by rw[List.length_take];omega);have aR:=Hd (bp.1 (Q[k]?.getD 0));have br:=Hd aZ;clear aV aZ aX;obtain rfl:=br.1;generalize (Q.take k).countP (fun x=>decide (x∈mF l ⟨u,q⟩))=n at *;generalize Q[k]?.getD 0=z at *;have bE:k<=zn:=hk;obtain⟨k0,k1⟩:=ib (by omega:k<zn);go_wp2_with fail;refine(sD YA yn yc ys z _ bs.1 (by omega)).mono ?_;by_cases hm:z∈ys
  ·rw[decide_eq_true hm];have ap:Hv ((Q.take (k+1)).countP (fun x=>decide (x∈mF l ⟨u,q⟩))=n+1):=Hd<|by show _=_;rw[aQ.1,if_pos (aR.1.1 hm)]
   clear hm;rintro _ _ ⟨rfl,rfl⟩;go_wp2_with fail;refine(rV true _).mono ?_;rintro _ _ ⟨rfl,rfl⟩;go_wp2;go_roundw
   ·exact⟨k+1,by omega,by(rw[ap.1];try go_num),by go_num,by trivial⟩
   simp[intOf];omega
  rw[decide_eq_false hm];have ap:Hv ((Q.take (k+1)).countP (fun x=>decide (x∈mF l ⟨u,q⟩))=n):=Hd<|by show _=_;rw[aQ.1,if_neg (fun h=>hm (aR.1.2 h))];rfl
  clear hm;rintro _ _ ⟨rfl,rfl⟩;go_wp2_with fail;refine(rV false _).mono ?_;rintro _ _ ⟨rfl,rfl⟩;go_wp2;go_roundw
  ·exact⟨k+1,by omega,by(rw[ap.1];try go_num),by go_num,by trivial⟩
  simp[intOf];omega
 have aJ:k=zn:=by omega
 have bb:=dF (by omega:zn<=k);have bg:Hv (Q.take k=Q):=Hd<|by show _=_;rw[aJ];exact List.take_of_length_le (by rw[a0.1];exact Nat.le_refl _)
 rw[bg.1,←bj.1];clear aJ;go_wp2;go_ret;exact⟨rfl,bk.1⟩
def fF(D:List Int)(i k:Nat):List Nat:=(List.range k).filter fun j=>decide (i<=j) && decide ((j:Int)∉D)
theorem xN(D:List Int)(i k:Nat):fF D i (k+1)=fF D i k++if i<=k/\(k:Int)∉D then[k]else[]:=by
 unfold fF;rw[List.range_succ,List.filter_append];by_cases h:i<=k/\(k:Int)∉D
 ·rw[if_pos h];simp[h.1,h.2]
 rw[if_neg h];by_cases h1:i<=k
 ·have h2:(k:Int)∈D:=by
   by_cases h2:(k:Int)∈D
   ·exact h2
   exact absurd ⟨h1,h2⟩ h
  simp[h1,h2]
 simp[h1]
def atE(es:List LeT)(j:Nat):LeT:=es[j]?.getD LeT.zero
def rbT(l:aU)(es:List LeT)(D:List Int)(i:Nat):Nat→Int×Int
 | 0=>(-1,-1)
 | k+1=>if(i<k/\(k:Int)∉D)/\sS l (atE es i) (atE es k)=true/\(rbT l es D i k).2<(pF l (atE es i) (atE es k):Int)then((k:Int),(pF l (atE es i) (atE es k):Int))else rbT l es D i k
theorem Jk(l:aU)(es:List LeT)(D:List Int)(i:Nat):∀k,
  (eF l (atE es i) ((fF D (i+1) k).map (atE es)) (fF D (i+1) k).length).2=(rbT l es D i k).2 /\
  ((eF l (atE es i) ((fF D (i+1) k).map (atE es)) (fF D (i+1) k).length).1=-1/\(rbT l es D i k).1=-1 ∨
   ∃p j:Nat,(fF D (i+1) k)[p]?=some j/\(eF l (atE es i) ((fF D (i+1) k).map (atE es)) (fF D (i+1) k).length).1=(p:Int)+1/\(rbT l es D i k).1=(j:Int))
 | 0=>⟨rfl,.inl ⟨rfl,rfl⟩⟩
 | k+1=>by
  obtain⟨h1,h2⟩:=Jk l es D i k;rw[xN,rbT];by_cases hk:i+1<=k/\(k:Int)∉D
  ·rw[if_pos hk];have g:i<k/\(k:Int)∉D:=⟨by omega,hk.2⟩
   have hb:eF l (atE es i) ((fF D (i+1) k++[k]).map (atE es)) (fF D (i+1) k++[k]).length =
     if sS l (atE es i) (atE es k)=true/\(rbT l es D i k).2<(pF l (atE es i) (atE es k):Int)then(((fF D (i+1) k).length:Int)+1,(pF l (atE es i) (atE es k):Int))else eF l (atE es i) ((fF D (i+1) k).map (atE es)) (fF D (i+1) k).length:=by
    rw[List.length_append,List.length_singleton,eF,List.map_append,zP l _ _ _ _ (by rw[List.length_map];exact Nat.le_refl _),h1]
    have hg:((fF D (i+1) k).map (atE es)++List.map (atE es) [k])[(fF D (i+1) k).length]?.getD LeT.zero=atE es k:=by
     rw[List.getElem?_append_right (by rw[List.length_map];exact Nat.le_refl _),List.length_map,Nat.sub_self];rfl
    rw[hg]
   rw[hb];by_cases hc:sS l (atE es i) (atE es k)=true/\(rbT l es D i k).2<(pF l (atE es i) (atE es k):Int)
   ·rw[if_pos hc,if_pos ⟨g,hc⟩];refine⟨rfl,.inr ⟨(fF D (i+1) k).length,k,?_,rfl,rfl⟩⟩;rw[List.getElem?_append_right (Nat.le_refl _),Nat.sub_self];rfl
   rw[if_neg hc,if_neg (fun h=>hc h.2)];refine⟨h1,?_⟩
   rcases h2 with h2|⟨p,j,h3,u,q⟩
   ·exact .inl h2
   refine .inr ⟨p,j,?_,u,q⟩;rw[List.getElem?_append_left (List.getElem?_eq_some_iff.1 h3).1];exact h3
  rw[if_neg hk,List.append_nil,if_neg (fun h=>hk ⟨by omega,h.1.2⟩)];exact⟨h1,h2⟩
theorem Ir(D:List Int)(i k:Nat):(fF D i k).Nodup:=by
 unfold fF;exact List.Nodup.sublist List.filter_sublist List.nodup_range
theorem KN{D:List Int}{i:Nat}(n:Nat)(h:(i:Int)∈D):fF D i n=fF D (i+1) n:=by
 unfold fF;refine List.filter_congr fun j _=>?_;by_cases e:j=i
 ·subst e;simp[h]
 have:(i<=j)=(i+1<=j):=by apply propext;omega
 simp[this]
theorem CE{D:List Int}{i:Nat}(h:(i:Int)∉D):∀{n:Nat},i<n→fF D i n=i::fF D (i+1) n
 | n+1,hn=>by
  rw[xN,xN];by_cases e:i=n
  ·subst e;rw[if_pos ⟨Nat.le_refl _,h⟩,if_neg (by omega)]
   have e1:∀m,m<=i→fF D i m=[]:=fun m hm=>by
    unfold fF;rw[List.filter_eq_nil_iff];intro j hj;have:=List.mem_range.1 hj;simp;omega
   have e2:fF D (i+1) i=[]:=by
    unfold fF;rw[List.filter_eq_nil_iff];intro j hj;have:=List.mem_range.1 hj;simp;omega
   rw[e1 i (Nat.le_refl _),e2];rfl
  rw[CE h (by omega:i<n),List.cons_append];by_cases h2:i+1<=n/\(n:Int)∉D
  ·rw[if_pos h2,if_pos ⟨by omega,h2.2⟩]
  rw[if_neg h2,if_neg (fun g=>h2 ⟨by omega,g.2⟩)]
theorem sI:∀{S:List Nat} {p j:Nat},S.Nodup→S[p]?=some j→S.eraseIdx p=S.filter fun x=>decide (x≠j)
 | [],p,j,_,h=>by simp at h
 | x::xs,0,j,hn,h=>by
  simp at h;subst h;rw[List.nodup_cons]at hn;rw[List.eraseIdx_cons_zero,List.filter_cons_of_neg (by simp)]
  symm
  rw[List.filter_eq_self];intro y g;simp;rintro rfl
  exact hn.1 g
 | x::xs,p+1,j,hn,h=>by
  rw[List.nodup_cons]at hn;simp at h
  have hx:x≠j:=by
   rintro rfl;exact hn.1 (List.mem_of_getElem? h)
  rw[List.eraseIdx_cons_succ,List.filter_cons_of_pos (by simp[hx]),sI hn.2 h]
theorem KO{D:List Int}{i n p j:Nat}(h:(fF D i n)[p]?=some j):(fF D i n).eraseIdx p=fF (D++[(j:Int)]) i n:=by
 rw[sI (Ir D i n) h];unfold fF;rw[List.filter_filter];refine List.filter_congr fun x _=>?_;by_cases e:x=j
 ·subst e;simp
 have:¬((x:Int)=(j:Int)):=by omega
 simp[e,this]
theorem Iu(es:List LeT):(fF [] 0 es.length).map (atE es)=es:=by
 have e:fF [] 0 es.length=List.range es.length:=by
  unfold fF;rw[List.filter_eq_self];intro j _;simp
 rw[e];refine List.ext_getElem (by simp) fun i h1 h2=>?_;simp[atE,List.getElem?_eq_getElem h2]
theorem CF(l:aU)(es:List LeT)(D:List Int)(i:Nat):∀{k:Nat},k<=i+1→rbT l es D i k=(-1,-1)
 | 0,_=>rfl
 | k+1,h=>by
  rw[rbT,if_neg (by omega),CF l es D i (by omega)]
theorem KP{α β:Type}(f:α→β)(L:List α)(p:Nat):(L.eraseIdx p).map f=(L.map f).eraseIdx p:=by
 rw[List.eraseIdx_eq_take_drop_succ,List.eraseIdx_eq_take_drop_succ,List.map_append,List.map_take,List.map_drop]
theorem NR{D:List Int}{i n p j:Nat}(h:(fF D i n)[p]?=some j):i<=j/\j<n:=by
 have h1:=List.mem_of_getElem? h;unfold fF at h1;obtain⟨h2,h3⟩:=List.mem_filter.1 h1;simp at h3;exact⟨h3.1,List.mem_range.1 h2⟩
theorem CG(l:aU)(es:List LeT){D:List Int}{i n:Nat}(h:(i:Int)∉D)(hi:i<n) :
  (∃j:Nat,i<j/\j<n/\(rbT l es D i n).1=(j:Int)/\eY l (fF D i n).length ((fF D i n).map (atE es))=⟨3,0,[atE es i,atE es j]⟩::eY l (fF (D++[(j:Int)]) (i+1) n).length ((fF (D++[(j:Int)]) (i+1) n).map (atE es))) ∨
  ((rbT l es D i n).1=-1/\eY l (fF D i n).length ((fF D i n).map (atE es))=⟨3,0,[atE es i]⟩::eY l (fF D (i+1) n).length ((fF D (i+1) n).map (atE es))):=by
 rw[CE h hi,List.length_cons,List.map_cons,eY];have hb:kW l (atE es i) ((fF D (i+1) n).map (atE es))=(eF l (atE es i) ((fF D (i+1) n).map (atE es)) (fF D (i+1) n).length).1:=by unfold kW;rw[List.length_map]
 rcases(Jk l es D i n).2 with⟨h1,h2⟩|⟨p,j,h1,h2,h3⟩
 ·rw[if_neg (by rw[hb,h1];omega)];exact .inr ⟨h2,rfl⟩
 obtain⟨q,g⟩:=NR h1;rw[if_pos (by rw[hb,h2];omega),hb,h2,show((p:Int)+1-1).toNat=p by omega];refine .inl ⟨j,by omega,g,h3,?_⟩;have hp:=(List.getElem?_eq_some_iff.1 h1).1;rw[List.getElem?_map,h1,←KP,←KO h1];show _::eY l _ _=_;rw[rD l (n:=(fF D (i+1) n).length) (m:=((fF D (i+1) n).eraseIdx p).length) (by rw[List.length_map,List.length_eraseIdx];split <;> omega) (by rw[List.length_map];exact Nat.le_refl _)];rfl
theorem MO(D:List Int)(n:Nat):fF D n n=[]:=by
 unfold fF;rw[List.filter_eq_nil_iff];intro j hj;have:=List.mem_range.1 hj;simp;omega
theorem RdC.esAt{w:World}{B n c k g j:Nat}{xs:List LeT}(h:RdC w B (ay xs) (.slice (some ⟨g,j,none⟩) n c))(hk:k<xs.length):g<B/\w.cell? ⟨g,j+k*2,none⟩=some (.int .i64 (atE xs k).lut)/\w.cell? ⟨g,j+k*2+1,none⟩=some (.int .i64 (atE xs k).ff):=by
 obtain⟨b,o,hA,h1,h2⟩:=h.es hk;injection hA with hA
 injection hA with e1 e2
 subst e1 e2;exact⟨h1,h2⟩
theorem KQ(l:aU)(SA LA OA:Oh)(sn sc ln lc on oc:Nat)(w:World)(hN:fA w l SA LA OA sn sc ln lc on oc)(hf:bJ l) :
  Calls Tryz.prog 84 #[ig l SA LA OA sn sc ln lc on oc] w fun e w'=>∃A n c,e=.returned (.tuple #[.slice A n c,.bool (fM l).2])/\aD w w' [.cel (aa (fM l).1) (.slice A n c)]:=by
 obtain⟨bn,br,bo⟩:=hN.lens;have dh:sn<=12:=by rw[←bn];exact hf.nseq
 have dd:ln<=400:=by rw[←br];exact hf.nlut
 have de:on<=16:=by rw[←bo];exact hf.nout
 have a1:=hf.inp;obtain⟨bl,cB,cn,HN,HF⟩:=hd5 bn br bo hN hf;obtain⟨Z,bj⟩:∃Z:Nat,l.inputs=(Z:Int):=⟨_,(Int.toNat_of_nonneg a1.1).symm⟩;have cL:=Hd bj;have cC:Hv (l.inputs.toNat=Z):=Hd<|by show _=_;rw[bj];rfl
 obtain⟨a2,cq,bF,bL,bI⟩:=info_parts Ew;have H:=Hd (And.intro cq (And.intro bF (And.intro bL bI)));obtain⟨cO,cA,b0,bG,bQ⟩:=info_parts tL;have a0:=Hd (And.intro cA (And.intro b0 (And.intro bG bQ)));have cv:Z<=20:=by omega
 clear hN hf bn br bo bF bL bI bj a1 b0 bG bQ;have ap:=Hd (aB (Below.refl w.heap.size w) (.cells (bX l SA LA OA sn sc ln lc on oc) 41));have Q:=Hd (aG w (.cells (bX l SA LA OA sn sc ln lc on oc) 41));go_enter Tryz.func84,Tryz.ntmps84;go_upto_region 1 with fail;obtain⟨gN,bc⟩:∃g,w.heap.size=g:=⟨_,rfl⟩;generalize w.alloc (.cells (bX l SA LA OA sn sc ln lc on oc) 41)=W9 at *;rw[bc]at Q
 (try rw[bc])
 clear bc;have aE:=Hd ((aD.refl W9).pushNew 89 3);go_upto_region 2 with fail;obtain⟨g0,bp⟩:∃g,W9.heap.size=g:=⟨_,rfl⟩;rw[bp]at aE
 (try rw[bp])
 clear bp;obtain⟨w0,bx⟩:∃y,y=W9.alloc (.cells #[] 89):=⟨_,rfl⟩;rw[←bx]at aE ⊢;clear bx;have B:=Hd (aF aE.1.bel Q.1);obtain⟨n0,n1,n2,n3,nl⟩:=bA B.1;go_wp2_with fail;refine(kI l SA LA OA sn sc ln lc on oc _ (HN.1.below (aA ap.1 aE.1.bel))).mono ?_;rw[bZ HF.1];rintro _ w1 ⟨rfl,b1⟩;have cu:=Hd (aE.1.below b1);clear b1 n0 n1 n2 n3 nl B aE;go_wp2
 go_loopw[4,5] (fun ov iv wr=>∃(k:Nat) (A:Oh) (c:Nat),k<=Z/\ov=.slice A k c/\iv=.int .i64 (k:Int)/\aD W9 wr [.cel (aa (ioI k)) (.slice A k c)]) (fun _ iv _=>Z-(intOf iv).toNat)
 ·exact⟨0,_,_,by omega,rfl,rfl,cu.1⟩
 obtain⟨k,A,c,hk,rfl,rfl,hs⟩:=hrel;have G:=Hd hs;have B:=Hd (aF hs.bel Q.1);clear hs;have n0:wr.cell? ⟨gN,0,none⟩=some (.int .i64 (Z:Int)):=by rw[←cL.1];exact aC (k:=0) B.1 rfl
 have nl:=aH B.1;by_cases K:k<Z
 ·have bk:=dT (by omega:k<Z);have ax:=Hd (Ey k);go_upto_region 7 with fail;clear n0 nl
  go_wp2_with (at_builtin;refine af rfl _ _ 42 89 rfl a2 _ 3 40 Tryz.underlying42 H.1.1 H.1.2.1 H.1.2.2.1 H.1.2.2.2 rfl (by decide) (by decide) _ ((G.1.alloc _).consBlkV 0 (k:Int)) 1 0 (by decide) k c _ A ((ioI k).flatMap Blk.cells) _ #[.int .i64 0,.int .i64 (k:Int),.slice none 0 0] _ rfl rfl rfl rfl (aG _ _) rfl (by omega) ?_;intro g9 cap w9 S9 ae;have z:=Hd S9.tail;clear S9 ae)
  go_roundw
  ·exact⟨k+1,_,_,by omega,rfl,by go_num,by rw[ax.1,jq];exact z.1⟩
  simp[intOf];omega
 have a9:Z=k:=by omega
 subst a9;have bk:decide ((Z:Int)<(Z:Int))=false:=by simp
 have cw:Hv (aD W9 wr [.cel (aa (ioO Z 0)) (.slice A Z c)]):=Hd<|by rw[FB];exact G.1
 clear G;go_wp2_with fail;clear n0 nl B
 go_loopw[4,6] (fun ov iv wr=>∃(q:Nat) (A:Oh) (c:Nat),q<=on/\ov=.slice A (Z+q) c/\iv=.int .i64 (q:Int)/\aD W9 wr [.cel (aa (ioO Z q)) (.slice A (Z+q) c)]) (fun _ iv _=>on-(intOf iv).toNat)
 ·exact⟨0,_,_,by omega,by rfl,rfl,cw.1⟩
 obtain⟨q,A,c,hq,rfl,rfl,hs⟩:=hrel;have G:=Hd hs;have B:=Hd (aF hs.bel Q.1);clear hs;obtain⟨-,-,-,n3,nl⟩:=bA B.1;by_cases K:q<on
 ·have cx:=dT (by omega:q<on);have ax:=Hd (Ez Z q);go_upto_region 11 with fail;clear n3 nl
  go_wp2_with (at_builtin;refine af rfl _ _ 42 89 rfl a2 _ 3 40 Tryz.underlying42 H.1.1 H.1.2.1 H.1.2.2.1 H.1.2.2.2 rfl (by decide) (by decide) _ ((G.1.alloc _).consBlkV 1 (q:Int)) 1 0 (by decide) (Z+q) c _ A ((ioO Z q).flatMap Blk.cells) _ #[.int .i64 1,.int .i64 (q:Int),.slice none 0 0] _ rfl rfl rfl rfl (aG _ _) rfl (by omega) ?_;intro g9 cap w9 S9 ae;have z:=Hd S9.tail;clear S9 ae)
  go_roundw
  ·exact⟨q+1,_,_,by omega,rfl,by go_num,by rw[ax.1,jq];exact z.1⟩
  simp[intOf];omega
 have cK:on=q:=by omega
 subst cK;have cx:decide ((on:Int)<(on:Int))=false:=by simp
 have cj:Hv (aD W9 wr [.cel (aa (ioM l 0)) (.slice A (Z+on) c)]):=Hd<|by rw[FC,cC.1,cn.1];exact G.1
 clear G;go_wp2_with fail;clear n3 nl B
 go_loopw[4,7] (fun ov iv wr=>∃(r:Nat) (A:Oh) (n c:Nat),r<=sn/\n<=40+r/\ov=.slice A n c/\iv=.int .i64 (r:Int)/\aD W9 wr [.cel (aa (ioM l r)) (.slice A n c)]) (fun _ iv _=>sn-(intOf iv).toNat)
 ·exact⟨0,_,_,_,by omega,by omega,rfl,rfl,cj.1⟩
 obtain⟨r,A,n,c,hr,c4,rfl,rfl,hs⟩:=hrel;have G:=Hd hs;have B:=Hd (aF hs.bel Q.1);have bd:=Hd (aA ap.1 hs.bel);clear hs;obtain⟨-,n1,nl⟩:=iC B.1;by_cases K:r<sn
 ·have cy:=dT (by omega:r<sn);have bU:r<l.seqs.length:=by rw[bl.1];exact K
  obtain⟨sb,so,IA,im,ic,bM,bR,d0,d1,d2,rI⟩:=HN.1.sq.sq' (k:=r) bU;have ax:=Hd (FD l r);have J:=Hd bM;have cl:=aJ bd.1 bR;rw[←bd.1.cell (p:=⟨sb,so+r*3,none⟩) bR]at d0;generalize (l.seqs[r]?.getD Sq.zero).kind=kd at *;obtain⟨r0,r1⟩:=ib (by omega:r<sn);clear bM rI bU d1 d2;obtain rfl:=J.1;by_cases hz:kd=1
  ·have dz:(kd==1)=true:=by simp[hz]
   have bb:Hv (ioM l (r+1)=ioM l r++[⟨2,(r:Int),[]⟩]):=Hd<|by show _=_;rw[ax.1,if_pos hz]
   clear hz;go_upto_region 16 with fail;clear d0 cl n1 nl
   go_wp2_with (at_builtin;refine af rfl _ _ 42 89 rfl a2 _ 3 40 Tryz.underlying42 H.1.1 H.1.2.1 H.1.2.2.1 H.1.2.2.2 rfl (by decide) (by decide) _ ((G.1.alloc _).consBlkV 2 (r:Int)) 1 0 (by decide) n c _ A ((ioM l r).flatMap Blk.cells) _ #[.int .i64 2,.int .i64 (r:Int),.slice none 0 0] _ rfl rfl rfl rfl (aG _ _) rfl (by omega) ?_;intro g9 cap w9 S9 ae;have z:=Hd S9.tail;clear S9 ae)
   go_roundw
   ·exact⟨r+1,_,_,_,by omega,by omega,rfl,by go_num,by rw[bb.1,jq];exact z.1⟩
   simp[intOf];omega
  have dz:(kd==1)=false:=by simp[hz]
  have bb:Hv (ioM l (r+1)=ioM l r):=Hd<|by show _=_;rw[ax.1,if_neg hz,List.append_nil]
  clear hz;go_wp2;go_roundw
  ·exact⟨r+1,_,_,_,by omega,by omega,rfl,by go_num,by rw[bb.1];exact G.1⟩
  simp[intOf];omega
 have bK:r=sn:=by omega
 have cy:=dF (by omega:sn<=r);have hs:=G.1;rw[bK,←bl.1,JY]at hs;have bP:=Hd hs;have c0:n<=52:=by omega
 clear G hs bK n1 nl;obtain⟨n0,n1,n2,n3,nl⟩:=bA B.1;go_wp2_with fail;refine(Iq l SA LA OA sn sc ln lc on oc _ (HN.1.below bd.1) HF.1).mono ?_;rintro _ w4 ⟨EA,u,ec,rfl,S4⟩;have aZ:=(S4.rd 0 rfl).esN;have bC:Hv (∀x∈els l,eB l x):=Hd<|Dy HF.1
 have dj:u<=412:=by
  have h1:=zt l (aK l.count (fw l)) l.luts.length;have h2:els l=kJ l (aK l.count (fw l)) l.luts.length:=rfl;rw[←h2,aZ,bl.1,cB.1]at h1;omega
 have bf:=Hd ((bP.1.pushT S4.bel (S4.tree 0 rfl)).pushRowB u);have cp:=jc u (by omega) w4;clear S4 n0 n1 n2 n3 nl B bP
 have az:Hv (mI l=ioB l++eY l (fF [] 0 u).length ((fF [] 0 u).map (atE (els l)))):=Hd<|by
  show _=_;have h1:=Iu (els l);rw[aZ]at h1;rw[h1];have h2:(fF [] 0 u).length=(els l).length:=by rw[←List.length_map (f:=atE (els l)),h1]
  rw[h2];rfl
 have bO:Hv (fM l=if(mI l).length<=64 then(mI l,true)else([],false)):=Hd<|rfl
 have aM:=Hd aZ;have a4:=(bf.1.rd 0 rfl).blkN;have bS:=Hd a4;generalize els l=es at *;generalize ioB l=O0 at *;generalize mI l=PB at *;clear aZ a4;go_upto_region 19 with fail;obtain⟨gD,bh⟩:∃g,w4.heap.size=g:=⟨_,rfl⟩;generalize w4.alloc (.cells (madeCells #[.bool false] u) 4)=w5 at *;rw[bh]at bf
 (try rw[bh])
 clear bh cp w4;go_wp2
 go_loopw[4,10] (fun ov iv wr=>∃(i:Nat) (O:List Blk) (D:List Int) (A:Oh) (n c:Nat),i<=u/\ov=.slice A n c/\iv=.int .i64 (i:Int)/\n<=64/\O.length=n/\PB=O++eY l (fF D i u).length ((fF D i u).map (atE es))/\aD W9 wr [.cel (aa O) (.slice A n c),.cel (ay es) (.slice EA u ec),eO gD u D]) (fun _ iv _=>u-(intOf iv).toNat)
 ·exact⟨0,O0,[],_,_,_,by omega,rfl,rfl,by omega,bS.1,az.1,bf.1⟩
 obtain⟨i,O,D,A,n,c,hi,rfl,rfl,aV,a5,bB,hs⟩:=hrel;obtain⟨G,az,au⟩:=hd3 hs bB a5;clear hs bB a5;by_cases K:i<u
 ·have ci:decide ((i:Int)<(u:Int))=true:=decide_eq_true (by omega);obtain⟨t1,t2,t3,_⟩:=G.1.truth 2 rfl K;have t3:=t3.2;obtain⟨i0,i1⟩:=ib (by omega:i<u);by_cases hD:(i:Int)∈D
  ·have aS:decide ((i:Int)∈D)=true:=decide_eq_true hD;have aP:Hv (PB=O++eY l (fF D (i+1) u).length ((fF D (i+1) u).map (atE es))):=Hd<|by show _=_;rw[←KN u hD];exact az.1
   go_wp2;go_roundw
   ·exact⟨i+1,O,D,_,_,_,by omega,rfl,by go_num,aV,au.1,aP.1,G.1⟩
   simp[intOf];omega
  have aS:decide ((i:Int)∈D)=false:=decide_eq_false hD;by_cases bD:n=64
  ·have cs:decide ((n:Int)=64)=true:=decide_eq_true (by omega);have cJ:((n:Int)==64)=true:=by simp;omega
   have aL:Hv (fM l=([],false)):=Hd<|by
    show _=_;rw[bO.1,if_neg];rw[az.1,List.length_append,au.1,bD]
    rcases CG l es hD K with⟨j,_,_,_,h5⟩|⟨_,h5⟩ <;> rw[h5,List.length_cons] <;> omega
   have aO:=Hd ((aD.nil (aA ap.1 G.1.bel)).pushNew 89 3);go_wp2
   go_ret2
   rw[aL.1]
   first|exact⟨_,_,_,rfl,aO.1⟩|exact⟨_,aO.1⟩
  have cJ:((n:Int)==64)=false:=by simp;omega
  have co:=Hd (CG l es hD K);have cg:Hv (eB l (atE es i)):=Hd<|bC.1 _ (by unfold atE;rw[List.getElem?_eq_getElem (by rw[aM.1];exact K)];exact List.getElem_mem _)
  have bH:=Hd (CF l es D i (Nat.le_refl (i+1)));obtain⟨V,oe,cN,_⟩:=(G.1.rd 1 rfl).es (k:=i) (by rw[aM.1];exact K);subst cN;have aw:Hv (∀(v:World) (ps:List Pc) (j:Nat),aD W9 v ps→ps[1]?=some (.cel (ay es) (.slice (some ⟨V,oe,none⟩) u ec))→j<u→V<v.heap.size/\v.cell? ⟨V,oe+j*2,none⟩=some (.int .i64 (atE es j).lut)/\v.cell? ⟨V,oe+j*2+1,none⟩=some (.int .i64 (atE es j).ff)):=Hd<|fun v ps j h h1 hj=>(h.rd 1 h1).esAt (by rw[aM.1];exact hj)
  have cR:n<=63:=by omega
  clear bD hD;have c7:IntKind.i64.wrap ((i:Int)+1)=(i:Int)+1:=IntWalk.i64_in _ (by omega);go_wp2_with fail;clear t1 t2 t3 aS
  go_loopw[11,12,13] (fun bv mv iv wr=>∃k:Nat,i+1<=k/\k<=u/\bv=.int .i64 (rbT l es D i k).1/\mv=.int .i64 (rbT l es D i k).2/\iv=.int .i64 (k:Int)/\aD W9 wr [.cel (aa O) (.slice A n c),.cel (ay es) (.slice (some ⟨V,oe,none⟩) u ec),eO gD u D]) (fun _ _ iv _=>u-(intOf iv).toNat)
  ·exact⟨i+1,by omega,by omega,by rw[bH.1],by rw[bH.1],by go_num,G.1⟩
  clear G;obtain⟨k,c8,hk,rfl,rfl,rfl,hs⟩:=hrel;have G:=Hd hs;clear hs;by_cases aj:k<u
  ·have bk:decide ((k:Int)<(u:Int))=true:=decide_eq_true (by omega);have a3:Hv (rbT l es D i (k+1)=if(i<k/\(k:Int)∉D)/\sS l (atE es i) (atE es k)=true/\(rbT l es D i k).2<(pF l (atE es i) (atE es k):Int)then((k:Int),(pF l (atE es i) (atE es k):Int))else rbT l es D i k):=Hd<|rfl
   obtain⟨t1,t2,t3,_⟩:=G.1.truth 2 rfl aj;have t3:=t3.2;obtain⟨k0,k1⟩:=ib (by omega:k<u);by_cases hD:(k:Int)∈D
   ·have aS:decide ((k:Int)∈D)=true:=decide_eq_true hD;have bN:Hv (rbT l es D i (k+1)=rbT l es D i k):=Hd<|by show _=_;rw[a3.1,if_neg (fun h=>h.1.2 hD)]
    have ck:=Hd G.1.drew;go_upto_region 30 with fail;rw[aS]at t1;refine wp_region_held_drew (S:=(fun w'=>w'.cell? ⟨gD,k,none⟩=some (.bool true))) (by kernel_rfl) t1 (fun hHeld=>?_);refine onW 0 opA hHeld ?_;refine onW 1 (opB opA) hHeld ?_;refine onW 2 (opB (opB opA)) hHeld ?_;refine onW 3 (opB (opB (opB opA))) hHeld ?_;refine onW 4 (opC opA) hHeld ?_;refine xC 5 (opC (opB opA)) hHeld ?_;refine xC 6 (opC (opB (opB opA))) hHeld ?_;refine xC 7 (opC (opB (opB (opB opA)))) hHeld ?_;refine xC 8 (opC (opC opA)) hHeld ?_;refine xC 9 (opC (opC (opB opA))) hHeld ?_;refine xC 10 (opC (opC (opB (opB opA)))) hHeld ?_;refine xC 11 (opC (opC (opB (opB (opB opA))))) hHeld ?_;refine xC 12 (opC (opC (opC opA))) hHeld ?_;refine xC 13 (opC (opC (opC (opB opA)))) hHeld ?_;refine xC 14 (opC (opC (opC (opB (opB opA))))) hHeld ?_;refine xC 15 (opC (opC (opC (opB (opB (opB opA)))))) hHeld ?_;refine xC 16 (opD opA) hHeld ?_;refine xC 17 (opD (opB opA)) hHeld ?_;refine onW 18 (opD (opB (opB opA))) hHeld ?_;refine wpAnyH_done (by kernel_rfl) ?_ _;go_wp2;go_roundw
    ·exact⟨k+1,by omega,by omega,by rw[bN.1],by rw[bN.1],by go_num,ck.1⟩
    simp[intOf];omega
   have aS:decide ((k:Int)∈D)=false:=decide_eq_false hD;have b2:Hv (eB l (atE es k)):=Hd<|bC.1 _ (by unfold atE;rw[List.getElem?_eq_getElem (by rw[aM.1];exact aj)];exact List.getElem_mem _)
   have hy:=aw.1 wr _ k G.1 rfl aj;have hx:=aw.1 wr _ i G.1 rfl K;have a6:=cg;have cz:Hv (i<k/\(k:Int)∉D):=Hd<|⟨by omega,hD⟩
   have I:Hv (∀(w':World) (ps:List Pc),aD W9 w' ps→ps[1]?=some (.cel (ay es) (.slice (some ⟨V,oe,none⟩) u ec))→ps[2]?=some (eO gD u D)→(K4 w' gN (.int .i64 l.inputs) (.slice SA sn sc) (.slice LA ln lc) (.slice OA on oc) (w'.cell? ⟨gD,k,none⟩=some (.bool (decide ((k:Int)∈D)))/\w'.cell? ⟨V,oe+i*2,none⟩=some (.int .i64 (atE es i).lut)/\w'.cell? ⟨V,oe+i*2+1,none⟩=some (.int .i64 (atE es i).ff)/\w'.cell? ⟨V,oe+k*2,none⟩=some (.int .i64 (atE es k).lut)/\w'.cell? ⟨V,oe+k*2+1,none⟩=some (.int .i64 (atE es k).ff)))):=Hd<|fun v ps h h1 h2=>by
    have e1:=aw.1 v ps i h h1 K;have e2:=aw.1 v ps k h h1 aj;exact⟨aC (k:=0) (aF h.bel Q.1) rfl,aC (k:=1) (aF h.bel Q.1) rfl,aC (k:=2) (aF h.bel Q.1) rfl,aC (k:=3) (aF h.bel Q.1) rfl,(h.truth 2 h2 aj).1,e1.2.1,e1.2.2,e2.2.1,e2.2.2⟩
   have B:=Hd (aF G.1.bel Q.1);clear hD;generalize atE es i=x at *;generalize atE es k=y at *;obtain⟨W,Y⟩:=x;obtain⟨U,R⟩:=y;simp only at hx hy I;obtain⟨lE,x0,x1⟩:=hx;obtain⟨_,y0,y1⟩:=hy
   have cF:Hv (∀e∈[(⟨W,Y⟩:LeT),⟨U,R⟩],eB l e):=Hd<|fun e he=>by
    rcases List.mem_cons.1 he with rfl|he
    ·exact a6.1
    rw[List.mem_singleton.1 he];exact b2.1
   have bE:Hv (sS l ⟨W,Y⟩ ⟨U,R⟩=decide ((qA l [⟨W,Y⟩,⟨U,R⟩]).length<=5)):=Hd<|rfl
   obtain⟨n0,n1,n2,n3,nl⟩:=bA B.1;have J:=Hd (G.1.drew.consEs2 W Y U R);have ao:=Hd G.1.drew;go_upto_region 30 with fail
   go_cut[108] (fun v w'=>v=.bool (decide (((qA l [⟨W,Y⟩,⟨U,R⟩]).length:Int)>5))/\aD W9 w' [.cel (aa O) (.slice A n c),.cel (ay es) (.slice (some ⟨V,oe,none⟩) u ec),eO gD u D])
   case first =>
    go_region_held3 (fun w'=>K4 w' gN (.int .i64 l.inputs) (.slice SA sn sc) (.slice LA ln lc) (.slice OA on oc) (w'.cell? ⟨gD,k,none⟩=some (.bool (decide ((k:Int)∈D)))/\w'.cell? ⟨V,oe+i*2,none⟩=some (.int .i64 W)/\w'.cell? ⟨V,oe+i*2+1,none⟩=some (.int .i64 Y)/\w'.cell? ⟨V,oe+k*2,none⟩=some (.int .i64 U)/\w'.cell? ⟨V,oe+k*2+1,none⟩=some (.int .i64 R)))
     (first|exact I.1 _ _ ao.1 rfl rfl|exact I.1 _ _ J.1.tail rfl rfl|exact I.1 _ _ aT.1.tail rfl rfl)
     ((first
      | (go_at_call 158;(refine(tK l SA LA OA sn sc ln lc on oc [⟨W,Y⟩,⟨U,R⟩] (some ⟨wr.heap.size,0,none⟩) 2 2 _ (HN.1.below (aA ap.1 J.1.bel)) HF.1 (J.1.rd 0 rfl) cF.1 (by omega)).mono ?_);rintro _ v8 ⟨PA,pn,pc,rfl,o8,b8⟩;have cm:=o8.len;have aT:=Hd (J.1.below b8);clear o8 b8)))
    all_goals
     go_wp2;go_meet;exact⟨by rw[cm],aT.1.tail⟩
   obtain⟨rfl,aR⟩:=hcut;have z:=Hd aR;clear aR J ao G n0 n1 n2 n3 nl x0 x1 y0 y1 lE t1 t2 t3 B;generalize (qA l [⟨W,Y⟩,⟨U,R⟩]).length=pl at *;by_cases h5:pl<=5
   ·rw[show decide ((pl:Int)>5)=false from decide_eq_false (by omega)];have cG:Hv (sS l ⟨W,Y⟩ ⟨U,R⟩=true):=Hd<|by show _=_;rw[bE.1];exact decide_eq_true h5
    clear h5;have hc:=I.1 _ _ z.1 rfl rfl;obtain⟨n0,n1,n2,n3,_,x0,x1,y0,y1⟩:=hc;have nl:=aH (aF z.1.bel Q.1);have lE:=(aw.1 _ _ i z.1 rfl K).1;have ao:=Hd z.1.drew;go_upto_region 31 with fail
    go_cut[14] (fun v w'=>v=.int .i64 (pF l ⟨W,Y⟩ ⟨U,R⟩:Int)/\aD W9 w' [.cel (aa O) (.slice A n c),.cel (ay es) (.slice (some ⟨V,oe,none⟩) u ec),eO gD u D])
    case first =>
     go_region_held3 (fun w'=>K4 w' gN (.int .i64 l.inputs) (.slice SA sn sc) (.slice LA ln lc) (.slice OA on oc) (w'.cell? ⟨gD,k,none⟩=some (.bool (decide ((k:Int)∈D)))/\w'.cell? ⟨V,oe+i*2,none⟩=some (.int .i64 W)/\w'.cell? ⟨V,oe+i*2+1,none⟩=some (.int .i64 Y)/\w'.cell? ⟨V,oe+k*2,none⟩=some (.int .i64 U)/\w'.cell? ⟨V,oe+k*2+1,none⟩=some (.int .i64 R)))
      (first|exact I.1 _ _ ao.1 rfl rfl|exact I.1 _ _ aT.1 rfl rfl)
      ((first
       | (go_at_call 159;(refine(BG l SA LA OA sn sc ln lc on oc W Y U R _ (HN.1.below (aA ap.1 ao.1.bel)) HF.1 a6.1 b2.1).mono ?_);rintro _ v8 ⟨rfl,b8⟩;have aT:=Hd (ao.1.below b8);clear b8)))
     all_goals
      go_wp2;go_meet;exact⟨rfl,aT.1⟩
    obtain⟨rfl,ai⟩:=hcut;have ar:=Hd ai;clear ai ao z n0 n1 n2 n3 nl x0 x1 y0 y1 lE;by_cases av:(rbT l es D i k).2<(pF l ⟨W,Y⟩ ⟨U,R⟩:Int)
    ·have dg:decide ((pF l ⟨W,Y⟩ ⟨U,R⟩:Int)>(rbT l es D i k).2)=true:=decide_eq_true av;have ak:Hv (rbT l es D i (k+1)=((k:Int),(pF l ⟨W,Y⟩ ⟨U,R⟩:Int))):=Hd<|by show _=_;rw[a3.1,if_pos ⟨cz.1,cG.1,av⟩]
     clear av;go_wp2;go_roundw
     ·exact⟨k+1,by omega,by omega,by rw[ak.1],by rw[ak.1],by go_num,ar.1⟩
     simp[intOf];omega
    have dg:decide ((pF l ⟨W,Y⟩ ⟨U,R⟩:Int)>(rbT l es D i k).2)=false:=decide_eq_false av;have ak:Hv (rbT l es D i (k+1)=rbT l es D i k):=Hd<|by show _=_;rw[a3.1,if_neg (fun h=>av h.2.2)]
    clear av;go_wp2;go_roundw
    ·exact⟨k+1,by omega,by omega,by rw[ak.1],by rw[ak.1],by go_num,ar.1⟩
    simp[intOf];omega
   rw[show decide ((pl:Int)>5)=true from decide_eq_true (by omega)];have ak:Hv (rbT l es D i (k+1)=rbT l es D i k):=Hd<|by show _=_;rw[a3.1,if_neg (fun h=>h5 (of_decide_eq_true (bE.1.symm.trans h.2.1)))]
   go_wp2;go_roundw
   ·exact⟨k+1,by omega,by omega,by rw[ak.1],by rw[ak.1],by go_num,z.1⟩
   simp[intOf];omega
  have a9:u=k:=by omega
  have bk:=dF (by omega:u<=k);subst a9;have hx:=aw.1 wr _ i G.1 rfl K;have b3:=co.1;generalize (rbT l es D i u).1=bv at *;generalize (rbT l es D i u).2=mv at *;generalize cM:atE es i=x at *;obtain⟨W,Y⟩:=x;simp only at hx;obtain⟨lE,x0,x1⟩:=hx;have h0:=(G.1.consEs1 W Y).pushBlk #[.int .i64 3,.int .i64 0,.slice (some ⟨wr.heap.size,0,none⟩) 1 1] 89;simp only[World.size_alloc]at h0;clear cM;go_upto_if 131 with fail;clear x0 x1 lE;obtain⟨gX,bs⟩:∃g,wr.heap.size=g:=⟨_,rfl⟩;rw[bs]at h0
  (try rw[bs])
  have J:=Hd h0;clear h0 bs;generalize (wr.alloc (.cells #[.int .i64 W,.int .i64 Y] 94)).alloc (.cells #[.int .i64 3,.int .i64 0,.slice (some ⟨gX,0,none⟩) 1 1] 89)=w5 at *
  go_cut[] (fun w'=>∃(E:List LeT) (D':List Int) (gE nE cE:Nat),eY l (fF D i u).length ((fF D i u).map (atE es))=⟨3,0,E⟩::eY l (fF D' (i+1) u).length ((fF D' (i+1) u).map (atE es))/\aD W9 w' [.cel (ay E) (.slice (some ⟨gE,0,none⟩) nE cE),.cel (aa O) (.slice A n c),.cel (ay es) (.slice (some ⟨V,oe,none⟩) u ec),eO gD u D',.blk (gX+1) #[.int .i64 3,.int .i64 0,.slice (some ⟨gE,0,none⟩) nE cE] 89])
  case first =>
   rcases b3 with⟨j,c9,hj,rfl,aq⟩|⟨rfl,aq⟩
   ·have cH:=Hd aq;have hy:=(J.1.rd 2 rfl).esAt (k:=j) (by rw[aM.1];exact hj);have c6:decide ((j:Int)≥0)=true:=by simp
    generalize atE es j=y at *;obtain⟨U,R⟩:=y;simp only at hy;obtain⟨lE,w0,w1⟩:=hy;obtain⟨-,-,z2,zl⟩:=j6 (J.1.blk 4 rfl).1;obtain⟨k0,k1⟩:=ib (by omega:j<u);clear aq;go_upto_region 37 with fail
    go_cut[] (fun w'=>∃g9 cap,aD W9 w' [.cel (ay [⟨W,Y⟩,⟨U,R⟩]) (.slice (some ⟨g9,0,none⟩) 2 cap),.cel (aa O) (.slice A n c),.cel (ay es) (.slice (some ⟨V,oe,none⟩) u ec),eO gD u D,.blk (gX+1) #[.int .i64 3,.int .i64 0,.slice (some ⟨g9,0,none⟩) 2 cap] 89])
    case first =>
     have ct:=Hd ((J.1.alloc (.cells #[.int .i64 U,.int .i64 R] 94)).drew.consLeV U R)
     go_region_law ((refine iL rfl _ _ _ 94 (by rfl) cO _ 2 16 Tryz.underlying87 a0.1.1 a0.1.2.1 a0.1.2.2.1 a0.1.2.2.2 rfl (by decide) (by decide) _ ct.1 1 0 (by decide) 1 1 _ (some ⟨gX,0,none⟩) (([⟨W,Y⟩]:List LeT).flatMap LeT.cells) _ #[.int .i64 U,.int .i64 R] _ rfl rfl (by rfl) (by rfl) (aG _ (.cells #[.int .i64 U,.int .i64 R] 94)) rfl (by omega) ?_);intro g9 cap w9 S9 ae;have l9:=aC (k:=2) (S9.blk 5 rfl).1 rfl;have f9:=aN (S9.blk 5 rfl).1 2;have q9:=aH (S9.blk 5 rfl).1;have z:=Hd S9;clear S9 ae)
     all_goals
      go_wp2;go_meet;exact⟨_,_,(z.1.put 5 rfl 2 _).tail⟩
    obtain⟨g9,cS,aR⟩:=hcut;obtain⟨t1,t2,t3,ai⟩:=aR.truth 3 rfl hj;have t3:=t3.2;have ar:=Hd ai;clear aR w0 w1 lE z2 zl G ai;go_wp2;go_meet;exact⟨_,_,_,_,_,cH.1,ar.1⟩
   go_wp2;go_meet;exact⟨_,_,_,_,_,aq,J.1⟩
  obtain⟨E,D',gE,nE,cE,aq,hs⟩:=hcut;have aP:Hv (PB=(O++[⟨3,0,E⟩])++eY l (fF D' (i+1) u).length ((fF D' (i+1) u).map (atE es))):=Hd<|by show _=_;rw[az.1,aq,List.append_assoc];rfl
  have cI:=Hd hs;have cD:Hv ((O++[(⟨3,0,E⟩:Blk)]).length=n+1):=Hd<|by show _=_;rw[List.length_append,au.1];rfl
  obtain⟨z0,z1,z2,zl⟩:=j6 (hs.blk 4 rfl).1;clear hs aq b3 G J
  go_wp2_with (at_builtin;refine af rfl _ _ 42 89 rfl a2 _ 3 40 Tryz.underlying42 H.1.1 H.1.2.1 H.1.2.2.1 H.1.2.2.2 rfl (by decide) (by decide) _ ((cI.1.alloc _).toBlk 0 3 0 rfl) 1 0 (by decide) n c _ A (O.flatMap Blk.cells) _ #[.int .i64 3,.int .i64 0,.slice (some ⟨gE,0,none⟩) nE cE] _ rfl rfl rfl rfl (aG _ _) rfl (by omega) ?_;intro g9 cap w9 S9 ae;have z:=Hd (S9.tail.sub (List.sublist_append_left [_,_,_] [_]));clear S9 ae)
  go_roundw
  ·exact⟨i+1,_,D',_,n+1,_,by omega,rfl,by go_num,by omega,cD.1,aP.1,by rw[jq];exact z.1⟩
  simp[intOf];omega
 have a1:i=u:=by omega
 have ci:=dF (by omega:u<=i);subst a1;have cs:decide ((n:Int)<=64)=true:=decide_eq_true (by omega);have cX:decide (n<=64)=true:=decide_eq_true aV;have ch:Hv (PB=O):=Hd<|by show _=_;rw[az.1,MO];exact List.append_nil _
 have aL:Hv (fM l=(O,true)):=Hd<|by show _=_;rw[bO.1,ch.1,if_pos (by rw[au.1];exact aV)]
 have aO:=Hd (((G.1.sub (qs:=[_]) (List.sublist_append_left [_] [_,_]))).lowerC ap.1 (lo:=_) (hi:=_) ap.1.size (Nat.le_refl _) (Chg.refl' _ _ _));go_wp2
 go_ret2
 rw[aL.1]
 first|exact⟨_,_,_,rfl,aO.1⟩|exact⟨_,aO.1⟩
end Go.Proofs.YtofihjoanjkdmaaGreat
