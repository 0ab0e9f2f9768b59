/- The configuration of a logic element in the program: leConfig (printed by mkc2.py). -/
import Derived.Test.YtofihjoanjkdmaaGreatCfgE
import Derived.Test.YtofihjoanjkdmaaGreatHeldT
import Derived.Test.YtofihjoanjkdmaaGreatLayDM
import Derived.Test.YtofihjoanjkdmaaGreatLayG7
namespace Go.Proofs.YtofihjoanjkdmaaGreat
set_option maxHeartbeats 16000000
set_option maxRecDepth 100000
open Go.RowKit
theorem xz (l:ag) (SA LA OA:Option Addr) (sn sc ln lc on oc:Nat) (it:Int) (es:List LeT) (EA:Option Addr) (en ec:Nat) (a b:Int) (w:World) (hN:fU w l SA LA OA sn sc ln lc on oc) (hf:az l) (hE:RdC w w.heap.size (cZ es) (.slice EA en ec)) (hK:∀e∈es,dG l e) (c6:en<=100000) (bO:dG l ⟨a,b⟩) :
  Calls Tryz.prog 74 #[jE l SA LA OA sn sc ln lc on oc,.agg #[.int .i64 3,.int .i64 it,.slice EA en ec],.agg #[.int .i64 a,.int .i64 b]] w fun e w'=>∃S m q,e = .returned (.agg #[.slice S m q,.int .i64 (leF l es ⟨a,b⟩).mask,.int .i64 (leF l es ⟨a,b⟩).flop,.int .i64 (leF l es ⟨a,b⟩).init])/\aJ w w' [.cel (aH (leF l es ⟨a,b⟩).sel) (.slice S m q)]:=by
 obtain ⟨bA,bk,cz⟩:=hN.lens
 have c9:sn<=12:=by rw [←bA];exact hf.nseq
 have cV:ln<=400:=by rw [←bk];exact hf.nlut
 obtain ⟨br,cj,HN,HF,HE,HK,av⟩:=hd7 bA bk hN hf hE hK bO
 clear hN hf hE hK bO bA bk cz
 have u:=Hd (aB (aB (aB (aB (Below.refl w.heap.size w) (.cells (ai l SA LA OA sn sc ln lc on oc) 41)) (.cells #[.int .i64 3,.int .i64 it,.slice EA en ec] 89)) (.cells #[.int .i64 a,.int .i64 b] 94)) (.cells #[.slice none 0 0,.int .i64 0,.int .i64 0,.int .i64 0] 121))
 have h1:=aW (.cells #[.slice none 0 0,.int .i64 0,.int .i64 0,.int .i64 0] 121) (aW (.cells #[.int .i64 a,.int .i64 b] 94) (aW (.cells #[.int .i64 3,.int .i64 it,.slice EA en ec] 89) (aI w (.cells (ai l SA LA OA sn sc ln lc on oc) 41))))
 have h2:=aW (.cells #[.slice none 0 0,.int .i64 0,.int .i64 0,.int .i64 0] 121) (aW (.cells #[.int .i64 a,.int .i64 b] 94) (aI (w.alloc (.cells (ai l SA LA OA sn sc ln lc on oc) 41)) (.cells #[.int .i64 3,.int .i64 it,.slice EA en ec] 89)))
 have h3:=aW (.cells #[.slice none 0 0,.int .i64 0,.int .i64 0,.int .i64 0] 121) (aI ((w.alloc (.cells (ai l SA LA OA sn sc ln lc on oc) 41)).alloc (.cells #[.int .i64 3,.int .i64 it,.slice EA en ec] 89)) (.cells #[.int .i64 a,.int .i64 b] 94))
 have h4:=aI (((w.alloc (.cells (ai l SA LA OA sn sc ln lc on oc) 41)).alloc (.cells #[.int .i64 3,.int .i64 it,.slice EA en ec] 89)).alloc (.cells #[.int .i64 a,.int .i64 b] 94)) (.cells #[.slice none 0 0,.int .i64 0,.int .i64 0,.int .i64 0] 121)
 simp only [World.size_alloc] at h2 h3 h4
 obtain ⟨I,aj,U,ae⟩:=hd4 h1 h2 h3 h4
 clear h1 h2 h3 h4
 go_enter Tryz.func74,Tryz.ntmps74
 go_upto_region 1 with fail
 obtain ⟨gN,bv⟩:∃g,w.heap.size=g:=⟨_,rfl⟩
 obtain ⟨gK,bt⟩:∃g,gN+1=g:=⟨_,rfl⟩
 obtain ⟨gE,bC⟩:∃g,gK+1=g:=⟨_,rfl⟩
 obtain ⟨gR,bg⟩:∃g,gE+1=g:=⟨_,rfl⟩
 generalize (((w.alloc (.cells (ai l SA LA OA sn sc ln lc on oc) 41)).alloc (.cells #[.int .i64 3,.int .i64 it,.slice EA en ec] 89)).alloc (.cells #[.int .i64 a,.int .i64 b] 94)).alloc (.cells #[.slice none 0 0,.int .i64 0,.int .i64 0,.int .i64 0] 121)=Q at *
 rw [bv] at I aj U ae
 rw [bt] at aj U ae
 rw [bC] at U ae
 rw [bg] at ae
 (try rw [bv])
 (try rw [bt])
 (try rw [bC])
 (try rw [bg])
 have bG:Hid (w.heap.size<=gR):=by show _<=_;omega
 clear bv bt bC bg
 have ct:=fun W=>FT W
 have aN:=Hd (((aJ.nil (Below.refl Q.heap.size Q)).pushOwn (aB (Below.refl _ _) (.cells #[.int .i64 0,.int .i64 0,.int .i64 0,.int .i64 0] 3)) (Own.made (cur:=#[.int .i64 0,.int .i64 0,.int .i64 0,.int .i64 0]) (aI Q _) (Nat.le_refl _) (by unfold maxLen;simp) rfl rfl:Own Q.heap.size (Q.alloc (.cells #[.int .i64 0,.int .i64 0,.int .i64 0,.int .i64 0] 3)) (some ⟨Q.heap.size,0,none⟩) 4 4 [0,0,0,0])).pushBlk #[.slice (some ⟨Q.heap.size,0,none⟩) 4 4,.int .i64 0,.int .i64 0,.int .i64 0] 121)
 go_upto_region 2 with fail
 obtain ⟨z,a1⟩:∃g,Q.heap.size=g:=⟨_,rfl⟩
 obtain ⟨D,bj⟩:∃g,(Q.alloc (.cells #[.int .i64 0,.int .i64 0,.int .i64 0,.int .i64 0] 3)).heap.size=g:=⟨_,rfl⟩
 have bb:z+1=D:=by rw [←bj,←a1];simp
 rw [a1,bj] at aN
 (try rw [a1])
 (try rw [bb])
 clear a1 bj bb ct
 generalize (Q.alloc (.cells #[.int .i64 0,.int .i64 0,.int .i64 0,.int .i64 0] 3)).alloc (.cells #[.slice (some ⟨z,0,none⟩) 4 4,.int .i64 0,.int .i64 0,.int .i64 0] 121)=W1 at *
 have V:Hid (aJ Q W1 [.cel (aH ([0,0,0,0])) (.slice (some ⟨z,0,none⟩) 4 4),.blk D #[.slice (some ⟨z,0,none⟩) 4 4,.int .i64 (0),.int .i64 (0),.int .i64 (0)] 121]):=aN
 clear aN
 obtain ⟨e0,H⟩:=wO (aD V.out.bel U.out)
 by_cases ha:0<=a
 ·clear e0 H
  obtain ⟨m,hm⟩:∃m:Nat,a=(m:Int):=⟨a.toNat,by omega⟩
  subst hm
  have a5:m<l.luts.length:=by have h1:(m:Int)<(l.luts.length:Int):=av.out.lut.2;omega
  have cW:m<ln:=by rw [←cj.out];exact a5
  obtain ⟨gt,ot,IA,im,ic,ce,a2,t0,t1,rI⟩:=HN.out.lt.lut' (k:=m) a5
  have am:=Hd rI.ints
  have bx:im<=4:=by rw [←am.out.1];exact (HF.out.luts m a5).1
  have cu:Hid ((l.luts[m]?.getD Lt.zero).ins.length<=4):=(HF.out.luts m a5).1
  have cv:=Hd ce
  have b5:Hid (∀v,Below w.heap.size w v→v.cell? ⟨gt,ot+m * 2,none⟩=some (.slice IA im ic)):=fun v hv=>(hv.cell (p:=⟨gt,ot+m * 2,none⟩) a2).trans t0
  have bW:Hid (∀v,Below w.heap.size w v→v.cell? ⟨gt,ot+m * 2+1,none⟩=some (.int .i64 (l.luts[m]?.getD Lt.zero).mask)):=fun v hv=>(hv.cell (p:=⟨gt,ot+m * 2+1,none⟩) a2).trans t1
  clear ce t0 t1 rI
  obtain rfl:=cv.out
  have da:decide ((m:Int)≥0)=true:=by simp
  obtain ⟨c1,cY⟩:=ib (by omega:m<ln)
  have t1:=bW.out _ (aA u.out V.out.bel)
  have t0:=b5.out _ (aA u.out V.out.bel)
  have bm:=aK (aA u.out V.out.bel) a2
  have au:Hid ((leF l es ⟨(m:Int),b⟩).sel=lJ (iM l es) (l.luts[m]?.getD Lt.zero).ins (l.luts[m]?.getD Lt.zero).ins.length/\(leF l es ⟨(m:Int),b⟩).mask=(l.luts[m]?.getD Lt.zero).mask):=⟨by unfold leF;simp,by unfold leF;simp⟩
  generalize (l.luts[m]?.getD Lt.zero).mask=mk at *
  have G:=(V.out.blk 1 rfl).1
  have b1:=aF (k:=1) G rfl
  have bz:=aX G 1
  have lb:=aC G
  clear G
  obtain ⟨-,-,n2,ao⟩:=jX (aD V.out.bel I.out)
  obtain ⟨e0,H⟩:=wO (aD V.out.bel U.out)
  go_upto_region 4 with fail
  have ak:Hid (aJ Q (W1.setCell ⟨D,1,none⟩ (.int .i64 mk)) [.cel (aH ([0,0,0,0])) (.slice (some ⟨z,0,none⟩) 4 4),.blk D #[.slice (some ⟨z,0,none⟩) 4 4,.int .i64 (mk),.int .i64 (0),.int .i64 (0)] 121]):=Hd (V.out.put 1 rfl 1 (.int .i64 mk))
  generalize W1.setCell ⟨D,1,none⟩ (.int .i64 mk)=W2 at *
  clear t0 t1 bm b1 bz lb n2 ao e0 H
  have t0:=b5.out _ (aA u.out ak.out.bel)
  have bm:=aK (aA u.out ak.out.bel) a2
  obtain ⟨-,-,n2,ao⟩:=jX (aD ak.out.bel I.out)
  obtain ⟨e0,H⟩:=wO (aD ak.out.bel U.out)
  go_wp2_with fail
  clear t0 bm n2 ao e0 H
  go_loopw [31] (fun i wr=>∃j:Nat,j<=im/\i = .int .i64 (j:Int)/\aJ Q wr [.cel (aH (lJ (iM l es) (l.luts[m]?.getD Lt.zero).ins j)) (.slice (some ⟨z,0,none⟩) 4 4),.blk D #[.slice (some ⟨z,0,none⟩) 4 4,.int .i64 (mk),.int .i64 (0),.int .i64 (0)] 121]) (fun i _=>im - (intOf i).toNat)
  ·exact ⟨0,by omega,rfl,ak.out⟩
  obtain ⟨j,hj,rfl,hs⟩:=hrel
  have HS:=Hd hs
  clear hs
  by_cases bY:j<im
  ·have dj:=dT (by omega:j<im)
   have aO:j<(l.luts[m]?.getD Lt.zero).ins.length:=by rw [am.out.1];exact bY
   obtain ⟨bi,oi,aZ,a4,aR⟩:=am.out.2 (by omega)
   have bE:=wY (iM l es) cu.out aO
   have ci:=((aA u.out HS.out.bel).cell (p:=⟨bi,oi+j,none⟩) a4).trans (aR j bY)
   have c0:=aK (aA u.out HS.out.bel) a4
   obtain ⟨nd,aG⟩:∃y,(l.luts[m]?.getD Lt.zero).ins[j]?.getD 0=y:=⟨_,rfl⟩
   rw [aG] at ci bE
   obtain ⟨bP,bD⟩:=hd2 bE aZ
   clear aZ aR aG bE aO
   obtain rfl:=bD.out
   obtain ⟨j0,j1⟩:=ib (by omega:j<im)
   have j4:(j:Int)<4:=by omega
   have co:j<4:=by omega
   obtain ⟨SL,cc⟩:∃y,lJ (iM l es) (l.luts[m]?.getD Lt.zero).ins j=y:=⟨_,rfl⟩
   rw [cc] at HS bP
   clear cc
   have aU:=Hd (fun (v:World) (hv:Below Q.heap.size Q v) (node:Int)=>qP l SA (some ⟨gt,ot,none⟩) OA sn sc ln lc on oc it es EA en ec node v (HN.out.below (aA u.out hv)) HF.out (HE.out.below (aA u.out hv)) HK.out (by omega))
   have Z:Hid (∀(v:World),aJ Q v [.cel (aH (SL)) (.slice (some ⟨z,0,none⟩) 4 4),.blk D #[.slice (some ⟨z,0,none⟩) 4 4,.int .i64 (mk),.int .i64 (0),.int .i64 (0)] 121]→(v.cell? ⟨D,0,none⟩=some (.slice (some ⟨z,0,none⟩) 4 4)/\K4 v gN (.int .i64 l.inputs) (.slice SA sn sc) (.slice (some ⟨gt,ot,none⟩) ln lc) (.slice OA on oc) (K3e v gK (.int .i64 3) (.int .i64 it) (.slice EA en ec)))):=Hd fun v h=>⟨aF (k:=0) (h.blk 1 rfl).1 rfl,aF (k:=0) (aD h.bel I.out) rfl,aF (k:=1) (aD h.bel I.out) rfl,aF (k:=2) (aD h.bel I.out) rfl,aF (k:=3) (aD h.bel I.out) rfl,aF (k:=0) (aD h.bel aj.out) rfl,aF (k:=1) (aD h.bel aj.out) rfl,aF (k:=2) (aD h.bel aj.out) rfl⟩
   have HT:Hid (aJ Q wr.drew [.cel (aH (SL)) (.slice (some ⟨z,0,none⟩) 4 4),.blk D #[.slice (some ⟨z,0,none⟩) 4 4,.int .i64 (mk),.int .i64 (0),.int .i64 (0)] 121]):=Hd HS.out.drew
   have bH:=HT.out.bel
   go_upto_region 7 with fail
   refine wp_region_noPanic ?_
   refine iR 8 (fun w'=>w'.cell? ⟨D,0,none⟩=some (.slice (some ⟨z,0,none⟩) 4 4)/\K4 w' gN (.int .i64 l.inputs) (.slice SA sn sc) (.slice (some ⟨gt,ot,none⟩) ln lc) (.slice OA on oc) (K3e w' gK (.int .i64 3) (.int .i64 it) (.slice EA en ec))) (Z.out _ HT.out) (fun J R=>?_)
   refine onT J 0 opA R ?_
   refine onT J 1 (opB opA) R ?_
   refine onT J 2 (opB (opB opA)) R ?_
   refine onT J 3 (opB (opB (opB opA))) R ?_
   refine onT J 4 (opC opA) R ?_
   refine onT J 5 (opC (opB opA)) R ?_
   refine uF J 6 (opC (opB (opB opA))) (fun K hK=>?_)
   go_simp
   go_at_call 59
   with_reducible refine (aU.out _ bH _).mono ?_
   rintro _ w7 ⟨rfl,b7⟩
   have aE:=Hd (HT.out.below b7)
   clear b7
   refine hK.out _ _ (Z.out _ aE.out) (fun R=>?_)
   clear hK K
   try simp only [Act.put,List.setIfInBounds_toArray,List.set_cons_zero,List.set_cons_succ]
   refine onT J 7 (opC (opB (opB (opB opA)))) R ?_
   obtain ⟨_,Y,_,q8,c8,f8,hu⟩:=aE.out.setI 0 (i:=j) rfl co
   injection Y with Y
   injection Y with Y
   subst Y
   refine tF J 8 (opC (opC opA)) ?_
   go_wp2_with fail
   refine NoPanic.normal ?_
   have cs:=Hd (hu (iM l es nd))
   go_wp2_with fail
   go_roundw
   ·exact ⟨j+1,by omega,by go_num,by have h9:=cs.out;rw [bP.out] at h9;exact h9⟩
   simp [intOf];omega
  have bT:j=im:=by omega
  have dj:=dF (by omega:im<=j)
  have aO:j=(l.luts[m]?.getD Lt.zero).ins.length:=by rw [am.out.1];exact bT
  rw [aO] at HS
  obtain ⟨WR,rfl⟩:∃y,y=wr:=⟨wr,rfl⟩
  have a6:=HS
  clear bT aO HS
  by_cases G:0<=b
  ·have B:=a6
   obtain ⟨-,e1,H⟩:=jv (aD B.out.bel U.out)
   have df:decide (b≥0)=true:=decide_eq_true G
   obtain ⟨f,hf⟩:∃f:Nat,b=(f:Int):=⟨b.toNat,by omega⟩
   subst hf
   have aV:f<l.seqs.length:=by have h1:(f:Int)<(l.seqs.length:Int):=av.out.ff.2;omega
   have cr:f<sn:=by rw [←br.out];exact aV
   obtain ⟨sb,so,cw,cn,cx,aS,ap,_,d1,_,_⟩:=HN.out.sq.sq' (k:=f) aV
   have bs:=Hd aS
   have bo:Hid (∀v,Below w.heap.size w v→v.cell? ⟨sb,so+f * 3+1,none⟩=some (.int .i64 (l.seqs[f]?.getD Sq.zero).init)):=fun v hv=>(hv.cell (p:=⟨sb,so+f * 3+1,none⟩) ap).trans d1
   clear aS d1
   obtain rfl:=bs.out
   obtain ⟨ca,bZ⟩:=ib (by omega:f<sn)
   have G:=(B.out.blk 1 rfl).1
   obtain ⟨-,-,b2,b3⟩:=cs4 G
   have bB:=aX G 2
   have bu:=aX G 3
   have lb:=aC G
   clear G
   obtain ⟨-,n1,ao⟩:=jv (aD B.out.bel I.out)
   have s1:=bo.out _ (aA u.out B.out.bel)
   have bl:=aK (aA u.out B.out.bel) ap
   have bF:sb<D:=Nat.lt_of_lt_of_le (aK u.out ap) (B.out.blk 1 rfl).2
   have HI:Hid ((leF l es ⟨(m:Int),(f:Int)⟩).flop=1/\(leF l es ⟨(m:Int),(f:Int)⟩).init=(l.seqs[f]?.getD Sq.zero).init):=⟨by unfold leF;simp,by unfold leF;simp⟩
   generalize (l.seqs[f]?.getD Sq.zero).init=ii at *
   go_upto_region 14 with fail
   have ad:Hid (aJ Q ((WR.setCell ⟨D,2,none⟩ (.int .i64 1)).setCell ⟨D,3,none⟩ (.int .i64 ii)) [.cel (aH (lJ (iM l es) (l.luts[m]?.getD Lt.zero).ins (l.luts[m]?.getD Lt.zero).ins.length)) (.slice (some ⟨z,0,none⟩) 4 4),.blk D #[.slice (some ⟨z,0,none⟩) 4 4,.int .i64 (mk),.int .i64 (1),.int .i64 (ii)] 121]):=Hd ((B.out.put 1 rfl 2 (.int .i64 1)).put 1 rfl 3 (.int .i64 ii))
   generalize (WR.setCell ⟨D,2,none⟩ (.int .i64 1)).setCell ⟨D,3,none⟩ (.int .i64 ii)=WF at *
   clear s1 bl bF b2 b3 bB bu lb n1 ao e1 H
   obtain ⟨b0,b1,b2,b3,lb⟩:=cO ((ad.out.blk 1 rfl).1)
   have hr:=aD ad.out.bel ae.out
   obtain ⟨r0,r1,r2,r3⟩:=cs4 hr
   have rf:=fun j=>aX hr j
   have lr:=aC hr
   have aQ:=Hd hr
   clear hr
   go_wp2_with fail
   refine bodyPost_ret (v := .agg #[.slice (some ⟨z,0,none⟩) 4 4,.int .i64 (mk),.int .i64 (1),.int .i64 (ii)]) (fE Tryz.results74 rfl (gV (gV (gV (gV aQ.out (.slice (some ⟨z,0,none⟩) 4 4) rfl) (.int .i64 (mk)) rfl) (.int .i64 (1)) rfl) (.int .i64 (ii)) rfl) Tryz.underlying121 (by kernel_rfl)) rfl ⟨some ⟨z,0,none⟩,4,4,by rw [HI.out.1,HI.out.2,au.out.2],?_⟩
   rw [au.out.1]
   exact (ad.out.sub (List.Sublist.cons_cons _ (List.nil_sublist _))).lowerC u.out (lo:=gR) (hi:=gR+1) (by have:=bG.out;omega) (by have:=aC ae.out;omega) ((((Chg.refl' _ _ _).set (by omega) (by omega) _ |>.set (by omega) (by omega) _) |>.set (by omega) (by omega) _) |>.set (by omega) (by omega) _)
  have B:=a6
  obtain ⟨-,e1,H⟩:=jv (aD B.out.bel U.out)
  have df:decide (b≥0)=false:=decide_eq_false G
  have HI:Hid ((leF l es ⟨(m:Int),b⟩).flop=0/\(leF l es ⟨(m:Int),b⟩).init=0):=⟨by unfold leF;exact if_neg G,by unfold leF;exact if_neg G⟩
  clear G
  go_upto_region 14 with fail
  have ad:=B
  obtain ⟨WF,rfl⟩:∃y,y=WR:=⟨WR,rfl⟩
  clear e1 H
  obtain ⟨b0,b1,b2,b3,lb⟩:=cO ((ad.out.blk 1 rfl).1)
  have hr:=aD ad.out.bel ae.out
  obtain ⟨r0,r1,r2,r3⟩:=cs4 hr
  have rf:=fun j=>aX hr j
  have lr:=aC hr
  have aQ:=Hd hr
  clear hr
  go_wp2_with fail
  refine bodyPost_ret (v := .agg #[.slice (some ⟨z,0,none⟩) 4 4,.int .i64 (mk),.int .i64 (0),.int .i64 (0)]) (fE Tryz.results74 rfl (gV (gV (gV (gV aQ.out (.slice (some ⟨z,0,none⟩) 4 4) rfl) (.int .i64 (mk)) rfl) (.int .i64 (0)) rfl) (.int .i64 (0)) rfl) Tryz.underlying121 (by kernel_rfl)) rfl ⟨some ⟨z,0,none⟩,4,4,by rw [HI.out.1,HI.out.2,au.out.2],?_⟩
  rw [au.out.1]
  exact (ad.out.sub (List.Sublist.cons_cons _ (List.nil_sublist _))).lowerC u.out (lo:=gR) (hi:=gR+1) (by have:=bG.out;omega) (by have:=aC ae.out;omega) ((((Chg.refl' _ _ _).set (by omega) (by omega) _ |>.set (by omega) (by omega) _) |>.set (by omega) (by omega) _) |>.set (by omega) (by omega) _)
 clear e0 H
 have da:decide (a≥0)=false:=decide_eq_false ha
 have G:0<=b:=by have h1:=av.out.lut.1;have h2:=av.out.ff.1;have h3:=av.out.one;change -1<=a at h1;change -1<=b at h2;change ¬(a=-1/\b=-1) at h3;omega
 obtain ⟨f0,bX⟩:∃f:Nat,b=(f:Int):=⟨b.toNat,by omega⟩
 have aP:f0<l.seqs.length:=by have h1:b<(l.seqs.length:Int):=av.out.ff.2;omega
 have cG:f0<sn:=by rw [←br.out];exact aP
 obtain ⟨ah,ar,IA,im,ic,bc,cb,_,_,d2,rI⟩:=HN.out.sq.sq' (k:=f0) aP
 have am:=Hd rI.ints
 have bx:1<=im:=by
  rw [←am.out.1]
  rcases (HF.out.seqs f0 aP).1 with h|h
  ·rw [h.2.2];exact Nat.le_refl _
  rw [h.2.2];omega
 have bS:=Hd bc
 have ck:Hid (∀v,Below w.heap.size w v→v.cell? ⟨ah,ar+f0 * 3+2,none⟩=some (.slice IA im ic)):=fun v hv=>(hv.cell (p:=⟨ah,ar+f0 * 3+2,none⟩) cb).trans d2
 obtain ⟨bi,oi,aZ,a4,aR⟩:=am.out.2 bx
 have a3:=aR 0 (by omega)
 rw [Nat.add_zero] at a3
 obtain ⟨nd,aG⟩:∃y,(l.seqs[f0]?.getD Sq.zero).ins[0]?.getD 0=y:=⟨_,rfl⟩
 rw [aG] at a3
 have cq:Hid (∀v,Below w.heap.size w v→v.cell? ⟨bi,oi,none⟩=some (.int .i64 nd)):=fun v hv=>(hv.cell (p:=⟨bi,oi,none⟩) a4).trans a3
 have bD:=Hd aZ
 have au:Hid ((leF l es ⟨a,b⟩).sel=[iM l es nd,0,0,0]/\(leF l es ⟨a,b⟩).mask=2):=by
  constructor
  ·unfold leF
   simp only [if_neg ha]
   rw [bX,Int.toNat_natCast,aG]
  unfold leF
  exact if_neg ha
 clear bc d2 rI aZ aR a3 aG ha
 obtain rfl:=bS.out
 obtain rfl:=bD.out
 have ca:(0:Int)<=b:=G
 have bZ:b<(sn:Int):=by omega
 have c5:(0:Int)<(im:Int):=by omega
 have cD:0<im:=bx
 have c3:(0:Int)<4:=by omega
 have G:=(V.out.blk 1 rfl).1
 have b1:=aF (k:=1) G rfl
 have bz:=aX G 1
 have lb:=aC G
 clear G
 obtain ⟨e0,H⟩:=wO (aD V.out.bel U.out)
 go_upto_region 10 with fail
 have ak:Hid (aJ Q (W1.setCell ⟨D,1,none⟩ (.int .i64 2)) [.cel (aH ([0,0,0,0])) (.slice (some ⟨z,0,none⟩) 4 4),.blk D #[.slice (some ⟨z,0,none⟩) 4 4,.int .i64 (2),.int .i64 (0),.int .i64 (0)] 121]):=Hd (V.out.put 1 rfl 1 (.int .i64 2))
 generalize W1.setCell ⟨D,1,none⟩ (.int .i64 2)=wr at *
 clear b1 bz lb e0 H
 subst bX
 have aU:=Hd (fun (v:World) (hv:Below Q.heap.size Q v) (node:Int)=>qP l (some ⟨ah,ar,none⟩) LA OA sn sc ln lc on oc it es EA en ec node v (HN.out.below (aA u.out hv)) HF.out (HE.out.below (aA u.out hv)) HK.out (by omega))
 have Z:Hid (∀(v:World),aJ Q v [.cel (aH ([0,0,0,0])) (.slice (some ⟨z,0,none⟩) 4 4),.blk D #[.slice (some ⟨z,0,none⟩) 4 4,.int .i64 (2),.int .i64 (0),.int .i64 (0)] 121]→(v.cell? ⟨D,0,none⟩=some (.slice (some ⟨z,0,none⟩) 4 4)/\K4 v gN (.int .i64 l.inputs) (.slice (some ⟨ah,ar,none⟩) sn sc) (.slice LA ln lc) (.slice OA on oc) (K3 v gK (.int .i64 3) (.int .i64 it) (.slice EA en ec) (v.cell? ⟨gE,1,none⟩=some (.int .i64 (f0:Int))/\v.cell? ⟨ah,ar+f0 * 3+2,none⟩=some (.slice (some ⟨bi,oi,none⟩) im ic)/\v.cell? ⟨bi,oi,none⟩=some (.int .i64 nd))))):=Hd fun v h=>⟨aF (k:=0) (h.blk 1 rfl).1 rfl,aF (k:=0) (aD h.bel I.out) rfl,aF (k:=1) (aD h.bel I.out) rfl,aF (k:=2) (aD h.bel I.out) rfl,aF (k:=3) (aD h.bel I.out) rfl,aF (k:=0) (aD h.bel aj.out) rfl,aF (k:=1) (aD h.bel aj.out) rfl,aF (k:=2) (aD h.bel aj.out) rfl,aF (k:=1) (aD h.bel U.out) rfl,ck.out _ (aA u.out h.bel),cq.out _ (aA u.out h.bel)⟩
 have HT:Hid (aJ Q wr.drew [.cel (aH ([0,0,0,0])) (.slice (some ⟨z,0,none⟩) 4 4),.blk D #[.slice (some ⟨z,0,none⟩) 4 4,.int .i64 (2),.int .i64 (0),.int .i64 (0)] 121]):=Hd ak.out.drew
 have bH:=HT.out.bel
 refine wp_region_noPanic ?_
 refine iR 15 (fun w'=>w'.cell? ⟨D,0,none⟩=some (.slice (some ⟨z,0,none⟩) 4 4)/\K4 w' gN (.int .i64 l.inputs) (.slice (some ⟨ah,ar,none⟩) sn sc) (.slice LA ln lc) (.slice OA on oc) (K3 w' gK (.int .i64 3) (.int .i64 it) (.slice EA en ec) (w'.cell? ⟨gE,1,none⟩=some (.int .i64 (f0:Int))/\w'.cell? ⟨ah,ar+f0 * 3+2,none⟩=some (.slice (some ⟨bi,oi,none⟩) im ic)/\w'.cell? ⟨bi,oi,none⟩=some (.int .i64 nd)))) (Z.out _ HT.out) (fun J R=>?_)
 refine onT J 0 opA R ?_
 refine onT J 1 (opB opA) R ?_
 refine onT J 2 (opB (opB opA)) R ?_
 refine onT J 3 (opB (opB (opB opA))) R ?_
 refine onT J 4 (opC opA) R ?_
 refine onT J 5 (opC (opB opA)) R ?_
 refine onT J 6 (opC (opB (opB opA))) R ?_
 refine onT J 7 (opC (opB (opB (opB opA)))) R ?_
 refine onT J 8 (opC (opC opA)) R ?_
 refine onT J 9 (opC (opC (opB opA))) R ?_
 refine onT J 10 (opC (opC (opB (opB opA)))) R ?_
 refine onT J 11 (opC (opC (opB (opB (opB opA))))) R ?_
 refine onT J 12 (opC (opC (opC opA))) R ?_
 refine uF J 13 (opC (opC (opC (opB opA)))) (fun K hK=>?_)
 go_simp
 go_at_call 59
 with_reducible refine (aU.out _ bH _).mono ?_
 rintro _ w7 ⟨rfl,b7⟩
 have aE:=Hd (HT.out.below b7)
 clear b7
 refine hK.out _ _ (Z.out _ aE.out) (fun R=>?_)
 clear hK K
 try simp only [Act.put,List.setIfInBounds_toArray,List.set_cons_zero,List.set_cons_succ]
 refine onT J 14 (opC (opC (opC (opB (opB opA))))) R ?_
 obtain ⟨_,Y,_,q8,c8,f8,hu⟩:=aE.out.setI 0 (i:=0) rfl (by omega)
 injection Y with Y
 injection Y with Y
 subst Y
 refine tF J 15 (opC (opC (opC (opB (opB (opB opA)))))) ?_
 go_wp2_with fail
 refine NoPanic.normal ?_
 have a6:Hid (aJ Q (w7.setCell ⟨z,0,none⟩ (.int .i64 (iM l es nd))) [.cel (aH ([iM l es nd,0,0,0])) (.slice (some ⟨z,0,none⟩) 4 4),.blk D #[.slice (some ⟨z,0,none⟩) 4 4,.int .i64 (2),.int .i64 (0),.int .i64 (0)] 121]):=Hd (hu (iM l es nd))
 generalize w7.setCell ⟨z,0,none⟩ (.int .i64 (iM l es nd))=WR at *
 clear c8 f8 q8 hu aE HT ak
 have B:=a6
 obtain ⟨-,e1,H⟩:=jv (aD B.out.bel U.out)
 have df:decide ((f0:Int)≥0)=true:=by simp
 obtain ⟨f,rfl⟩:∃f:Nat,f=f0:=⟨f0,rfl⟩
 have aV:f<l.seqs.length:=by have h1:(f:Int)<(l.seqs.length:Int):=av.out.ff.2;omega
 have cr:f<sn:=by rw [←br.out];exact aV
 obtain ⟨sb,so,cw,cn,cx,aS,ap,_,d1,_,_⟩:=HN.out.sq.sq' (k:=f) aV
 have bs:=Hd aS
 have bo:Hid (∀v,Below w.heap.size w v→v.cell? ⟨sb,so+f * 3+1,none⟩=some (.int .i64 (l.seqs[f]?.getD Sq.zero).init)):=fun v hv=>(hv.cell (p:=⟨sb,so+f * 3+1,none⟩) ap).trans d1
 clear aS d1
 have aY:=bs.out
 injection aY with aY
 injection aY with h21 h22
 subst h21 h22
 obtain ⟨ca,bZ⟩:=ib (by omega:f<sn)
 have G:=(B.out.blk 1 rfl).1
 obtain ⟨-,-,b2,b3⟩:=cs4 G
 have bB:=aX G 2
 have bu:=aX G 3
 have lb:=aC G
 clear G
 obtain ⟨-,n1,ao⟩:=jv (aD B.out.bel I.out)
 have s1:=bo.out _ (aA u.out B.out.bel)
 have bl:=aK (aA u.out B.out.bel) ap
 have bF:ah<D:=Nat.lt_of_lt_of_le (aK u.out ap) (B.out.blk 1 rfl).2
 have HI:Hid ((leF l es ⟨a,(f:Int)⟩).flop=1/\(leF l es ⟨a,(f:Int)⟩).init=(l.seqs[f]?.getD Sq.zero).init):=⟨by unfold leF;simp,by unfold leF;simp⟩
 generalize (l.seqs[f]?.getD Sq.zero).init=ii at *
 go_upto_region 14 with fail
 have ad:Hid (aJ Q ((WR.setCell ⟨D,2,none⟩ (.int .i64 1)).setCell ⟨D,3,none⟩ (.int .i64 ii)) [.cel (aH ([iM l es nd,0,0,0])) (.slice (some ⟨z,0,none⟩) 4 4),.blk D #[.slice (some ⟨z,0,none⟩) 4 4,.int .i64 (2),.int .i64 (1),.int .i64 (ii)] 121]):=Hd ((B.out.put 1 rfl 2 (.int .i64 1)).put 1 rfl 3 (.int .i64 ii))
 generalize (WR.setCell ⟨D,2,none⟩ (.int .i64 1)).setCell ⟨D,3,none⟩ (.int .i64 ii)=WF at *
 clear s1 bl bF b2 b3 bB bu lb n1 ao e1 H
 obtain ⟨b0,b1,b2,b3,lb⟩:=cO ((ad.out.blk 1 rfl).1)
 have hr:=aD ad.out.bel ae.out
 obtain ⟨r0,r1,r2,r3⟩:=cs4 hr
 have rf:=fun j=>aX hr j
 have lr:=aC hr
 have aQ:=Hd hr
 clear hr
 go_wp2_with fail
 refine bodyPost_ret (v := .agg #[.slice (some ⟨z,0,none⟩) 4 4,.int .i64 (2),.int .i64 (1),.int .i64 (ii)]) (fE Tryz.results74 rfl (gV (gV (gV (gV aQ.out (.slice (some ⟨z,0,none⟩) 4 4) rfl) (.int .i64 (2)) rfl) (.int .i64 (1)) rfl) (.int .i64 (ii)) rfl) Tryz.underlying121 (by kernel_rfl)) rfl ⟨some ⟨z,0,none⟩,4,4,by rw [HI.out.1,HI.out.2,au.out.2],?_⟩
 rw [au.out.1]
 exact (ad.out.sub (List.Sublist.cons_cons _ (List.nil_sublist _))).lowerC u.out (lo:=gR) (hi:=gR+1) (by have:=bG.out;omega) (by have:=aC ae.out;omega) ((((Chg.refl' _ _ _).set (by omega) (by omega) _ |>.set (by omega) (by omega) _) |>.set (by omega) (by omega) _) |>.set (by omega) (by omega) _)
theorem A8:(Tryz.prog.info? 110).map (fun i=>(i.zero,i.size,i.bytes))=some (some (.agg #[.slice none 0 0,.slice none 0 0,.int .i64 0,.int .i64 0]),4,64):=by kernel_rfl
theorem wE (d:Dev) (x:Lay) (SA LA OA BA CA PA RA:Option Addr) (sn sc ln lc on oc bn bc cn cc pn pc rn rc:Nat) (w:World) (h:lK w x SA LA OA BA CA PA RA sn sc ln lc on oc bn bc cn cc pn pc rn rc) (hl:EY x 1048576) (ep:pn<=pc) (bX:pc<=1048576) :
  Calls Tryz.prog 20 #[.agg (dv d),vR x SA LA OA BA CA PA RA sn sc ln lc on oc bn bc cn cc pn pc rn rc] w fun e w'=>∃S n c,e = .returned (.tuple #[.slice S n c,.bool (tb (jB d x))])/\aJ w w' [.cel (dW (cfgD d x)) (.slice S n c)]:=by
 obtain ⟨cq,cy,cN,cS⟩:=h.lens
 obtain ⟨aP,aH,d9⟩:=h.net.lens
 have d5:bn<=1048576:=by rw [←cq];exact hl.blocks
 have dm:cn<=1048576:=by rw [←cy];exact hl.conns
 obtain ⟨bg,eN,eJ,ct,cU,ew,H1,bU⟩:=hd8 cq cN cy cS aP aH h hl
 clear h hl cq cy cN cS aP aH d9
 have z:=Hd (aB (aB (Below.refl w.heap.size w) (.cells (dv d) 36)) (.cells #[.int .i64 x.net.inputs,.slice SA sn sc,.slice LA ln lc,.slice OA on oc,.slice BA bn bc,.slice CA cn cc,.slice PA pn pc,.slice RA rn rc] 46))
 have h1:=aW (.cells #[.int .i64 x.net.inputs,.slice SA sn sc,.slice LA ln lc,.slice OA on oc,.slice BA bn bc,.slice CA cn cc,.slice PA pn pc,.slice RA rn rc] 46) (aI w (.cells (dv d) 36))
 have h2:=aI (w.alloc (.cells (dv d) 36)) (.cells #[.int .i64 x.net.inputs,.slice SA sn sc,.slice LA ln lc,.slice OA on oc,.slice BA bn bc,.slice CA cn cc,.slice PA pn pc,.slice RA rn rc] 46)
 simp only [World.size_alloc] at h2
 obtain ⟨ak,ad⟩:=hd2 h1 h2
 clear h1 h2
 go_enter Tryz.func20,Tryz.ntmps20
 go_upto_region 1 with fail
 obtain ⟨gX,cA⟩:∃g,w.heap.size=g:=⟨_,rfl⟩
 obtain ⟨gY,bS⟩:∃g,gX+1=g:=⟨_,rfl⟩
 generalize (w.alloc (.cells (dv d) 36)).alloc (.cells #[.int .i64 x.net.inputs,.slice SA sn sc,.slice LA ln lc,.slice OA on oc,.slice BA bn bc,.slice CA cn cc,.slice PA pn pc,.slice RA rn rc] 46)=W9 at *
 rw [cA] at ak ad
 rw [bS] at ad
 (try rw [cA])
 (try rw [bS])
 clear cA bS
 obtain ⟨x0,x1,x2,x3,lx⟩:=cO (aD (Below.refl W9.heap.size W9) ak.out)
 obtain ⟨y0,y1,y2,y3,y4,y5,y6,y7,ly⟩:=mK (aD (Below.refl W9.heap.size W9) ad.out)
 go_wp2_with fail
 refine (xf d x SA LA OA BA CA PA RA sn sc ln lc on oc bn bc cn cc pn pc rn rc _ (H1.out.below z.out).net (H1.out.below z.out).bl (H1.out.below z.out).cn (H1.out.below z.out).pl (H1.out.below z.out).ro d5 dm ep bX bU.out.les bU.out.sinks bU.out.nodes).mono ?_
 by_cases hf:jB d x
 ·rw [ae hf]
  rintro _ w1 ⟨rfl,b1⟩
  obtain ⟨B1,HF⟩:=hd2 b1 hf
  have fv:bn<=64:=by rw [←bg.out];exact hf.pack.len
  have fL:ln<=400:=by rw [←ew.out];exact hf.pack.net.nlut
  have fX:rn<=1048576:=by rw [←ct.out,hf.routes.len,eJ.out];exact dm
  have gl:=fZ hf.place.dev
  have gx:sn<=12:=by rw [←cU.out];exact hf.pack.net.nseq
  obtain ⟨hN,f9,gp⟩:=lD hf.place.dev
  have eb:=Hd (fun w=>wM d w hf.place.dev)
  have cP:=(oC hf.place.dev).2.2.1
  obtain ⟨ax,c7,dk,dh,di⟩:=info_parts A8
  have a6:=Hd (show Tryz.prog.info? 110=some ax/\ax.zero=some (.agg #[.slice none 0 0,.slice none 0 0,.int .i64 0,.int .i64 0])/\ax.size=4/\ax.bytes=64 from ⟨c7,dk,dh,di⟩)
  have eM:Hid ((d.W * d.H).toNat=oM d):=rfl
  generalize oM d=N at *
  have a3:IntKind.i64.wrap (N:Int)=(N:Int):=IntWalk.i64_in _ (by omega)
  clear b1 hf c7 dk dh di x0 x1 x2 x3 lx y0 y1 y2 y3 y4 y5 y6 y7 ly
  have J:=Hd ((aJ.nil B1.out).pushNil 110 4)
  go_wp2_with fail
  go_loopw [6,7] (fun v i wr=>∃(k:Nat) (A:Option Addr) (c:Nat),k<=N/\i = .int .i64 (k:Int)/\v = .slice A k c/\aJ W9 wr [.cel (dW (List.replicate k (emT d))) (.slice A k c)]) (fun _ i _=>N - (intOf i).toNat)
  ·exact ⟨0,none,0,by omega,rfl,rfl,J.out⟩
  obtain ⟨k,A,c,hk,rfl,rfl,hs⟩:=hrel
  have Z:=Hd hs
  clear hs
  obtain ⟨x0,x1,x2,x3,lx⟩:=cO (aD Z.out.bel ak.out)
  by_cases dI:k<N
  ·have cg:=dT (by omega:k<N)
   go_wp2_with fail
   refine (eb.out _).mono ?_
   rintro _ w5 h5
   obtain ⟨v0,v1,rfl,s5⟩:=wu h5 cP
   have ez:=Hd (Z.out.join s5)
   clear h5 s5 x0 x1 x2 x3 lx
   go_wp2_with (at_builtin;refine gQ rfl _ _ 58 110 rfl ax _ 4 64 Tryz.underlying58 a6.out.1 a6.out.2.1 a6.out.2.2.1 a6.out.2.2.2 rfl (by decide) (by decide) _ (ez.out.alloc _) 0 1 (by decide) k c _ A ((List.replicate k (emT d)).flatMap bC.cells) _ #[v0,v1,.int .i64 0,.int .i64 0] _ rfl rfl rfl rfl (aI _ _) rfl (by omega) ?_;intro g9 f5 w9 S9 gn)
   go_roundw
   ·exact ⟨k+1,_,_,by omega,by go_num,rfl,by rw [zO];exact S9.sub (List.Sublist.cons_cons _ (List.nil_sublist _))⟩
   simp [intOf];omega
  have a4:k=N:=by omega
  subst a4
  have cg:decide ((k:Int)<(k:Int))=false:=by simp
  obtain ⟨N,rfl⟩:∃y,y=k:=⟨k,rfl⟩
  obtain ⟨gT,hA,_⟩:=oJ Z.out 0 rfl (t:=0) (by rw [List.length_replicate];omega) 2 (by decide)
  have ey:=Hd hA
  clear hA hk
  obtain rfl:=ey.out
  obtain ⟨y0,y1,y2,y3,y4,y5,y6,y7,ly⟩:=mK (aD Z.out.bel ad.out)
  go_wp2_with fail
  clear x0 x1 x2 x3 lx y0 y1 y2 y3 y4 y5 y6 y7 ly
  have I:Hid (aJ W9 wr [.cel (dW (jI d x 0)) (.slice (some ⟨gT,0,none⟩) N c)]):=by show aJ _ _ _;unfold jI;rw [eM.out];exact Z.out
  clear Z
  go_loopw [40] (fun i wr=>∃q:Nat,q<=rn/\i = .int .i64 (q:Int)/\aJ W9 wr [.cel (dW (jI d x q)) (.slice (some ⟨gT,0,none⟩) N c)]) (fun i _=>rn - (intOf i).toNat)
  ·exact ⟨0,by omega,rfl,I.out⟩
  obtain ⟨q,hq,rfl,hs⟩:=hrel
  have J:=Hd hs
  clear hs
  by_cases eW:q<rn
  ·have eL:=dT (by omega:q<rn)
   have bV:q<x.routes.length:=by rw [ct.out];exact eW
   obtain ⟨gq,oq,NA,nm,nc,FA,fm,fc,c5,cr,c0,c1,rN,rF⟩:=H1.out.ro.rou (k:=q) bV
   have ay:=(HF.out.routes.fit q (by rw [←HF.out.routes.len];exact bV)).2
   have G:=Hd (aA z.out J.out.bel)
   rw [←G.out.cell (p:=⟨gq,oq+q * 2,none⟩) cr] at c0
   rw [←G.out.cell (p:=⟨gq,oq+q * 2+1,none⟩) cr] at c1
   have eC:=aK G.out cr
   have b2:=(qd HF.out.routes HF.out.place.dev q (by omega)).1
   obtain ⟨r,hr⟩:∃r,wW x q=r:=⟨_,rfl⟩
   have u:jI d x (q+1)=kC d r (jI d x q) r.nodes.length:=by rw [←hr];rfl
   rw [show x.routes[q]?.getD Rou.zero=r from hr] at rN rF ay
   obtain ⟨cW,aR⟩:=hd2 ay rN.ints
   have fz:nm<=1000:=by rw [←aR.out.1];have:=ay.len.2;omega
   have dw:=Hd rF.ints
   have dx:=Hd (⟨fun m h0 hm=>rO ay h0 hm⟩:Es d r)
   obtain ⟨TS,dd⟩:∃y,jI d x q=y:=⟨_,rfl⟩
   rw [dd] at b2 u J
   obtain ⟨eV,ea,d3⟩:=hd3 b2 u c5
   clear rN rF ay hr dd b2 u c5 bV
   obtain rfl:=d3.out
   obtain ⟨q0,q1⟩:=ib (by omega:q<rn)
   have am:=J.out.pushBlk #[.slice NA nm nc,.slice FA fm fc] 114
   go_upto_region 11 with fail
   obtain ⟨gr,cw⟩:∃g,wr.heap.size=g:=⟨_,rfl⟩
   rw [cw] at am
   (try rw [cw])
   have I:=Hd am
   clear cw am c0 c1 eC G J
   generalize wr.alloc (.cells #[.slice NA nm nc,.slice FA fm fc] 114)=W1 at *
   obtain ⟨r0,lr⟩:=wO ((I.out.blk 1 rfl).1)
   go_wp2_with fail
   clear r0 lr
   go_loopw [47] (fun i wr=>∃j:Nat,j<=nm/\i = .int .i64 (j:Int)/\aJ W9 wr [.cel (dW (kC d r TS j)) (.slice (some ⟨gT,0,none⟩) N c),.blk gr #[.slice NA nm nc,.slice FA fm fc] 114]) (fun i _=>nm - (intOf i).toNat)
   ·exact ⟨0,by omega,rfl,I.out⟩
   obtain ⟨j,hj,rfl,hs⟩:=hrel
   have Z:=Hd hs
   clear hs
   by_cases dc:j<nm
   ·have em:=dT (by omega:j<nm)
    have c6:j<r.nodes.length:=by rw [aR.out.1];exact dc
    obtain ⟨bN,oN,du,cj,b5⟩:=aR.out.2 (by omega)
    have bT:=((aA z.out Z.out.bel).cell (p:=⟨bN,oN+j,none⟩) cj).trans (b5 j dc)
    have d2:=aK (aA z.out Z.out.bel) cj
    obtain ⟨eE,d6⟩:=hd2 b5 du
    clear b5 du
    obtain rfl:=d6.out
    obtain ⟨j0,j1⟩:=ib (by omega:j<nm)
    by_cases hz:j=0
    ·subst hz
     have R:Hid (kC d r TS (0+1)=kC d r TS 0):=if_pos rfl
     rw [Nat.add_zero] at bT
     generalize r.nodes[0]?.getD 0=n at *
     go_wp2_with fail
     go_roundw
     ·exact ⟨0+1,by omega,by go_num,by rw [R.out];exact Z.out⟩
     simp [intOf];omega
    have dz:((j:Int)==0)=false:=by simp;omega
    obtain ⟨aq,bK⟩:=dx.out.nod j (by omega) c6
    obtain ⟨a0,a1,a2,a3⟩:=um aq
    have bq:fP d (r.nodes[j]?.getD 0)=true:=by unfold bQ at aq;simp only [Bool.and_eq_true] at aq;exact aq.1
    obtain ⟨_,_,_,_,_,b0,b1⟩:=il bq
    have bX:=eP HF.out.place.dev
    have aM:=fun w=>jO d (r.nodes[j]?.getD 0) w bq
    have Y:=(cW.out.step j (by omega) c6).1
    have br:=(sI HF.out.place.dev dx.out eV.out j (by omega)).1
    have u:kC d r TS (j+1)=Ci d r j (kC d r TS j):=if_neg (by omega)
    unfold Ci at u
    have Q:=br.mux ((r.nodes[j]?.getD 0) / aV d).toNat (by rw [br.len];omega)
    have ch:=br.len
    have dE:r.from_.length=fm:=dw.out.1
    have cQ:fm=nm:=by rw [←dE,cW.out.same,aR.out.1]
    obtain ⟨bF,oF,dl,d4,dg⟩:=dw.out.2 (by omega)
    have cf:=dg j (by omega)
    obtain ⟨F,hF⟩:∃F:Nat,r.from_[j]?.getD 0=(F:Int):=⟨_,(Int.toNat_of_nonneg Y.1).symm⟩
    rw [hF] at cf Y u
    rw [Int.toNat_natCast] at u
    have cs:=eE.out F (by omega)
    obtain ⟨n,hn⟩:∃n,r.nodes[j]?.getD 0=n:=⟨_,rfl⟩
    obtain ⟨S,hS⟩:∃n,r.nodes[F]?.getD 0=n:=⟨_,rfl⟩
    rw [hn] at bT aM u a0 a1 a2 a3 b0 b1 Q aq bK bq
    rw [hS] at u cs
    obtain ⟨TJ,c4⟩:∃y,kC d r TS j=y:=⟨_,rfl⟩
    rw [c4] at u Q ch Z
    obtain ⟨T,B⟩:∃T:Nat,n / aV d=(T:Int):=⟨_,(Int.toNat_of_nonneg a0).symm⟩
    obtain ⟨K,hK⟩:∃K:Nat,n % aV d=(K:Int):=⟨_,(Int.toNat_of_nonneg b0).symm⟩
    obtain ⟨KI,cu⟩:∃K:Nat,Ab d n=(K:Int):=⟨_,(Int.toNat_of_nonneg a2).symm⟩
    have aC:(KI:Int)=if 7<=(K:Int) then (K:Int) - 2 else (K:Int):=by rw [←cu,←hK];rfl
    rw [B] at aM u Q a1
    rw [hK] at aM b1
    rw [cu] at u a3
    rw [Int.toNat_natCast] at u Q
    rw [Int.toNat_natCast] at u
    obtain ⟨R,dS⟩:=hd2 u aM
    have U:Hid (T<TJ.length):=by show _<_;rw [ch];omega
    have ds:Hid (KI<(tAt TJ T).mux.length):=by show _<_;rw [Q];omega
    have eT:Hid (∀v,Below w.heap.size w v→v.cell? ⟨bF,oF+j,none⟩=some (.int .i64 (F:Int))):=fun v hv=>(hv.cell (p:=⟨bF,oF+j,none⟩) d4).trans cf
    have dV:Hid (∀v,Below w.heap.size w v→v.cell? ⟨bN,oN+F,none⟩=some (.int .i64 S)):=fun v hv=>(hv.cell (p:=⟨bN,oN+F,none⟩) cj).trans cs
    have ei:=Hd dl
    have fG:T<N:=by omega
    clear aM u Q ch dg cf cs hn hS c4 B cu aq bK bq a0 a1 a2 a3 b0 br hF dE hz dl hK
    obtain rfl:=ei.out
    obtain ⟨t0,t1⟩:=ib (by omega:T<N)
    obtain ⟨f0,f1⟩:=ib (by omega:F<nm)
    have f2:F<nm:=by omega
    have j2:(j:Int)<(fm:Int):=by omega
    have j3:j<fm:=by omega
    have k9:(K:Int)<100:=by omega
    clear bX b1 cQ
    obtain ⟨x0,x1,x2,x3,lx⟩:=cO (aD Z.out.bel ak.out)
    go_wp2_with fail
    refine (dS.out _).mono ?_
    rintro _ w6 ⟨rfl,b6⟩
    have cY:=Hd (Z.out.below b6)
    clear b6 bT d2 x0 x1 x2 x3 lx
    obtain ⟨wr,rfl⟩:∃y,y=w6:=⟨w6,rfl⟩
    have Z:=cY
    clear cY
    go_upto_if 61 with fail
    go_cut [13] (fun k w'=>k = .int .i64 (KI:Int)/\wr=w')
    case first =>
     by_cases h7:(7:Int)<=(K:Int)
     ·have d7:decide ((K:Int)≥7)=true:=decide_eq_true h7
      go_upto_region 18 with fail
      go_meet
      exact ⟨by rw [aC,if_pos (by omega)],rfl⟩
     have d7:decide ((K:Int)≥7)=false:=decide_eq_false h7
     go_upto_region 18 with fail
     go_meet
     exact ⟨by rw [aC,if_neg (by omega)],rfl⟩
    obtain ⟨rfl,rfl⟩:=hcut
    clear aC
    obtain ⟨wT,ap⟩:∃y,wr.drew=y:=⟨_,rfl⟩
    have HT:Hid (aJ W9 wT [.cel (dW (TJ)) (.slice (some ⟨gT,0,none⟩) N c),.blk gr #[.slice (some ⟨bN,oN,none⟩) nm nc,.slice (some ⟨bF,oF,none⟩) fm fc] 114]):=Hd (by rw [←ap];exact Z.out.drew)
    obtain ⟨bf,sb,ma,mb,hA,ar,cT,ha,al⟩:=Bn HT.out 0 rfl (t:=T) U.out (k:=KI) ds.out
    injection hA with hA
    injection hA with hA
    subst hA
    obtain ⟨aE,cm⟩:=hd2 al ha
    clear al ha
    have eI:KI<ma:=by rw [cm.out];exact ds.out
    have aC:(KI:Int)<(ma:Int):=by omega
    have fI:(0:Int)<=(KI:Int):=by omega
    have V:Hid (∀(v:World),Below wT.heap.size wT v→aJ W9 v [.cel (dW (TJ)) (.slice (some ⟨gT,0,none⟩) N c),.blk gr #[.slice (some ⟨bN,oN,none⟩) nm nc,.slice (some ⟨bF,oF,none⟩) fm fc] 114]→(v.cell? ⟨gT,T * 4,none⟩=some (.slice (some ⟨sb,0,none⟩) ma mb)/\KD v gX d (v.cell? ⟨gr,0,none⟩=some (.slice (some ⟨bN,oN,none⟩) nm nc)/\v.cell? ⟨gr,1,none⟩=some (.slice (some ⟨bF,oF,none⟩) fm fc)/\v.cell? ⟨bF,oF+j,none⟩=some (.int .i64 (F:Int))/\v.cell? ⟨bN,oN+F,none⟩=some (.int .i64 S)))):=Hd fun v hv h=>⟨(hv.cell (p:=⟨gT,T * 4,none⟩) ar).trans cT,aF (k:=0) (aD h.bel ak.out) rfl,aF (k:=1) (aD h.bel ak.out) rfl,aF (k:=2) (aD h.bel ak.out) rfl,aF (k:=3) (aD h.bel ak.out) rfl,aF (k:=0) (h.blk 1 rfl).1 rfl,aF (k:=1) (h.blk 1 rfl).1 rfl,eT.out _ (aA z.out h.bel),dV.out _ (aA z.out h.bel)⟩
    have cG:=HT.out.bel
    go_upto_region 18 with fail
    refine wp_region_noPanic ?_
    have aN:=V.out _ (Below.refl _ _) HT.out
    rw [←ap] at aN
    refine iR 19 (fun w'=>w'.cell? ⟨gT,T * 4,none⟩=some (.slice (some ⟨sb,0,none⟩) ma mb)/\KD w' gX d (w'.cell? ⟨gr,0,none⟩=some (.slice (some ⟨bN,oN,none⟩) nm nc)/\w'.cell? ⟨gr,1,none⟩=some (.slice (some ⟨bF,oF,none⟩) fm fc)/\w'.cell? ⟨bF,oF+j,none⟩=some (.int .i64 (F:Int))/\w'.cell? ⟨bN,oN+F,none⟩=some (.int .i64 S))) (aN) (fun B D=>?_)
    rw [ap] at D ⊢
    refine onT B 0 opA D ?_
    refine onT B 1 (opB opA) D ?_
    refine onT B 2 (opB (opB opA)) D ?_
    refine onT B 3 (opB (opB (opB opA))) D ?_
    refine onT B 4 (opC opA) D ?_
    refine onT B 5 (opC (opB opA)) D ?_
    refine onT B 6 (opC (opB (opB opA))) D ?_
    refine onT B 7 (opC (opB (opB (opB opA)))) D ?_
    refine onT B 8 (opC (opC opA)) D ?_
    refine onT B 9 (opC (opC (opB opA))) D ?_
    refine onT B 10 (opC (opC (opB (opB opA)))) D ?_
    refine onT B 11 (opC (opC (opB (opB (opB opA))))) D ?_
    refine onT B 12 (opC (opC (opC opA))) D ?_
    refine onT B 13 (opC (opC (opC (opB opA)))) D ?_
    refine onT B 14 (opC (opC (opC (opB (opB opA))))) D ?_
    refine onT B 15 (opC (opC (opC (opB (opB (opB opA)))))) D ?_
    refine onT B 16 (opD opA) D ?_
    refine uF B 17 (opD (opB opA)) (fun K hK=>?_)
    go_simp
    go_at_call 73
    with_reducible refine (vw d n S _).mono ?_
    rintro _ w7 ⟨rfl,b7⟩
    have cz:=Hd (HT.out.below b7)
    have B7:=Hd b7
    clear b7
    refine hK.out _ _ (V.out _ B7.out cz.out) (fun D=>?_)
    clear hK K
    try simp only [Act.put,List.setIfInBounds_toArray,List.set_cons_zero,List.set_cons_succ]
    refine onT B 18 (opD (opB (opB opA))) D ?_
    obtain ⟨q8,⟨x8,c8⟩,f8,hu⟩:=aE.out _ B7.out
    refine tF B 19 (opD (opB (opB (opB opA)))) ?_
    go_wp2_with fail
    refine NoPanic.normal ?_
    have ag:=Hd (hu (rP (fe d n) S))
    go_wp2_with fail
    go_roundw
    ·exact ⟨j+1,by omega,by go_num,by rw [R.out];exact ag.out⟩
    simp [intOf];omega
   have dp:j=nm:=by omega
   have em:=dF (by omega:nm<=j)
   have cR:Hid (jI d x (q+1)=kC d r TS j):=by show _=_;rw [ea.out,aR.out.1,dp]
   clear dp
   go_wp2_with fail
   go_roundw
   ·exact ⟨q+1,by omega,by go_num,by rw [cR.out];exact Z.out.sub (List.Sublist.cons_cons _ (List.nil_sublist _))⟩
   simp [intOf];omega
  have dt:q=rn:=by omega
  have eL:=dF (by omega:rn<=q)
  have aZ:Hid (aJ W9 wr [.cel (dW (fH d x 0)) (.slice (some ⟨gT,0,none⟩) N c)]):=by show aJ _ _ _;unfold fH;rw [ct.out,←dt];exact J.out
  clear dt J
  obtain ⟨wb,rfl⟩:∃y,y=wr:=⟨wr,rfl⟩
  obtain ⟨y0,y1,y2,y3,y4,y5,y6,y7,ly⟩:=mK (aD aZ.out.bel ad.out)
  go_wp2_with fail
  clear y0 y1 y2 y3 y4 y5 y6 y7 ly
  go_loopw [88] (fun i wr=>∃k:Nat,k<=bn/\i = .int .i64 (k:Int)/\aJ W9 wr [.cel (dW (fH d x k)) (.slice (some ⟨gT,0,none⟩) N c)]) (fun i _=>bn - (intOf i).toNat)
  ·exact ⟨0,by omega,rfl,aZ.out⟩
  obtain ⟨k,hk,rfl,hs⟩:=hrel
  have J:=Hd hs
  clear hs
  by_cases dI:k<bn
  ·have cg:=dT (by omega:k<bn)
   have Q:k<x.blocks.length:=by rw [bg.out];exact dI
   have G:=Hd (aA z.out J.out.bel)
   obtain ⟨gb,ob,EA,en,ec,dC,a8,c0,c1,c2,r2⟩:=H1.out.bl.blk (k:=k) Q
   have d8:=aK G.out a8
   rw [←G.out.cell (p:=⟨gb,ob+k * 3,none⟩) a8] at c0
   rw [←G.out.cell (p:=⟨gb,ob+k * 3+1,none⟩) a8] at c1
   rw [←G.out.cell (p:=⟨gb,ob+k * 3+2,none⟩) a8] at c2
   have aw:dM x.net (oH x k):=by unfold oH;rw [List.getElem?_eq_getElem Q];exact HF.out.pack.fit _ (List.getElem_mem Q)
   obtain ⟨cv,au⟩:=qf HF.out k (by omega)
   have au:=au k (Nat.le_refl _) Q
   obtain ⟨p0,p1,p2⟩:=pq HF.out.place Q
   have u:fH d x (k+1)=yz x k (fH d x k):=rfl
   unfold yz at u
   obtain ⟨T,B⟩:∃T,sG x k=T:=⟨_,rfl⟩
   have dr:x.place[k]?.getD 0=(T:Int):=by rw [←B];exact (Int.toNat_of_nonneg p0).symm
   rw [B] at u au p2
   obtain ⟨TB,da⟩:∃y,fH d x k=y:=⟨_,rfl⟩
   rw [da] at cv au u J
   have bH:=cv.len
   have ev:pn=bn:=by rw [←eN.out,←bg.out,HF.out.place.same,List.length_map]
   obtain ⟨bp,op,dB,cL,cX⟩:=H1.out.pl.ints.2 (by omega)
   have cp:=cX k (by omega)
   rw [dr] at cp
   have ej:Hid (∀v,Below w.heap.size w v→v.cell? ⟨bp,op+k,none⟩=some (.int .i64 (T:Int))):=fun v hv=>(hv.cell (p:=⟨bp,op+k,none⟩) cL).trans cp
   obtain ⟨bx,ca⟩:∃b,oH x k=b:=⟨_,rfl⟩
   rw [ca] at aw u
   rw [show x.blocks[k]?.getD Blk.zero=bx from ca] at c0 c1 r2
   have dq:=nU aw
   have aG:=lT aw
   obtain ⟨kd,it,es⟩:=bx
   simp only at c0 c1 aG u
   have HE:=Hd (show RdC w w.heap.size (cZ es) (.slice EA en ec) from r2)
   have az:Hid (es.length=en):=HE.out.esN
   have dA:en<=2:=by rw [←az.out];exact aG
   have cV:=Hd (show ∀e∈es,dG x.net e from dq)
   obtain ⟨R,ek⟩:=hd2 u au
   have U:Hid (T<TB.length):=by show _<_;rw [bH];exact p2
   have fE:T<N:=by omega
   obtain ⟨eR,eD⟩:=hd2 dC dB
   clear ca dq aG r2 dC u Q au cv bH da B dr p0 p1 p2 cX cp dB
   obtain rfl:=eR.out
   obtain rfl:=eD.out
   obtain ⟨i0,i1⟩:=ib (by omega:k<bn)
   have i2:(k:Int)<(pn:Int):=by omega
   have i3:k<pn:=by omega
   obtain ⟨t0,t1⟩:=ib (by omega:T<N)
   clear ev
   have am:=J.out.pushBlk #[.int .i64 kd,.int .i64 it,.slice EA en ec] 89
   go_upto_region 24 with fail
   obtain ⟨gK,b8⟩:∃g,wr.heap.size=g:=⟨_,rfl⟩
   rw [b8] at am
   (try rw [b8])
   have I:=Hd am
   clear b8 am c0 c1 c2 d8 G J
   generalize wr.alloc (.cells #[.int .i64 kd,.int .i64 it,.slice EA en ec] 89)=W1 at *
   have cp:=ej.out _ (aA z.out I.out.bel)
   have dR:=aK (aA z.out I.out.bel) cL
   obtain ⟨y0,y1,y2,y3,y4,y5,y6,y7,ly⟩:=mK (aD I.out.bel ad.out)
   obtain ⟨k0,k1,k2,lk⟩:=jX ((I.out.blk 1 rfl).1)
   by_cases aY:kd=0
   ·subst aY
    obtain ⟨bf,hA,ar,⟨xT,cT⟩,fT,Y⟩:=oJ I.out 0 rfl (t:=T) U.out 2 (by decide)
    injection hA with hA
    injection hA with hA
    subst hA
    have ag:=Hd (Y (1))
    have ao:Hid (fH d x (k+1)=setPad TB T (1)):=by show _=_;rw [R.out];rfl
    clear Y
    go_wp2_with fail
    go_roundw
    ·exact ⟨k+1,by omega,by go_num,by rw [ao.out];exact ag.out.sub (List.Sublist.cons_cons _ (List.nil_sublist _))⟩
    simp [intOf];omega
   have fN:(kd==0)=false:=by simp [aY]
   rw [if_neg aY] at R
   by_cases bh:kd=1
   ·subst bh
    obtain ⟨bf,hA,ar,⟨xT,cT⟩,fT,Y⟩:=oJ I.out 0 rfl (t:=T) U.out 2 (by decide)
    injection hA with hA
    injection hA with hA
    subst hA
    have ag:=Hd (Y (2))
    have ao:Hid (fH d x (k+1)=setPad TB T (2)):=by show _=_;rw [R.out];rfl
    clear Y
    go_wp2_with fail
    go_roundw
    ·exact ⟨k+1,by omega,by go_num,by rw [ao.out];exact ag.out.sub (List.Sublist.cons_cons _ (List.nil_sublist _))⟩
    simp [intOf];omega
   have fK:(kd==1)=false:=by simp [bh]
   rw [if_neg bh] at R
   by_cases bu:kd=2
   ·subst bu
    have dZ:0<=it/\it<(x.net.seqs.length:Int):=jW.1 aw.1
    obtain ⟨X,hX⟩:∃X:Nat,it=(X:Int):=⟨it.toNat,by omega⟩
    subst hX
    have cM:X<x.net.seqs.length:=by omega
    have fO:X<sn:=by rw [←cU.out];exact cM
    obtain ⟨sb,so,IA,im,ic,df,db,_,d1,_,_⟩:=H1.out.net.sq.sq' (k:=X) cM
    rw [←(aA z.out I.out.bel).cell (p:=⟨sb,so+X * 3+1,none⟩) db] at d1
    have fY:=aK (aA z.out I.out.bel) db
    have eo:=Hd df
    clear df dZ
    obtain rfl:=eo.out
    obtain ⟨fA,gw⟩:=ib (by omega:X<sn)
    rw [Int.toNat_natCast] at R
    generalize (x.net.seqs[X]?.getD Sq.zero).init=ii at *
    obtain ⟨bf,hA,ar,⟨xT,cT⟩,fT,Y⟩:=oJ I.out 0 rfl (t:=T) U.out 3 (by decide)
    injection hA with hA
    injection hA with hA
    subst hA
    have ag:=Hd (Y (ii))
    have ao:Hid (fH d x (k+1)=setRam TB T (ii)):=by show _=_;rw [R.out];rfl
    clear Y
    go_wp2_with fail
    go_roundw
    ·exact ⟨k+1,by omega,by go_num,by rw [ao.out];exact ag.out.sub (List.Sublist.cons_cons _ (List.nil_sublist _))⟩
    simp [intOf];omega
   have gk:(kd==2)=false:=by simp [bu]
   rw [if_neg bu] at R
   have eg:kd=3:=by have:=iL aw.1;omega
   subst eg
   clear aY bh bu aw
   have c9:Hid (aJ W9 W1 [.cel (dW (setLes TB T (mE x.net es 0))) (.slice (some ⟨gT,0,none⟩) N c),.blk gK #[.int .i64 3,.int .i64 it,.slice EA en ec] 89]):=by show aJ _ _ _;rw [wZ,zP U.out ek.out];exact I.out
   go_wp2_with fail
   clear cp dR k0 k1 k2 lk y0 y1 y2 y3 y4 y5 y6 y7 ly
   go_loopw [105] (fun i wr=>∃e:Nat,e<=en/\i = .int .i64 (e:Int)/\aJ W9 wr [.cel (dW (setLes TB T (mE x.net es e))) (.slice (some ⟨gT,0,none⟩) N c),.blk gK #[.int .i64 3,.int .i64 it,.slice EA en ec] 89]) (fun i _=>en - (intOf i).toNat)
   ·exact ⟨0,by omega,rfl,c9.out⟩
   obtain ⟨e,he,rfl,hs⟩:=hrel
   have Z:=Hd hs
   clear hs
   by_cases eK:e<en
   ·have et:=dT (by omega:e<en)
    have aQ:e<es.length:=by rw [az.out];exact eK
    obtain ⟨be,oe,dn,cl,a5,bd⟩:=HE.out.es (k:=e) aQ
    have bZ:dG x.net (es[e]?.getD LeT.zero):=by rw [List.getElem?_eq_getElem aQ];exact cV.out _ (List.getElem_mem aQ)
    have co:=yx x.net (by rw [az.out];exact dA) aQ
    have aH:=ul x.net (by rw [az.out];exact dA:es.length<=2) (by omega:e<=es.length)
    have aX:=Hd (aA z.out Z.out.bel)
    rw [←aX.out.cell (p:=⟨be,oe+e * 2,none⟩) cl] at a5
    rw [←aX.out.cell (p:=⟨be,oe+e * 2+1,none⟩) cl] at bd
    have eA:=aK aX.out cl
    have bb:=DL U.out (mE x.net es e)
    have cB:=xW U.out (mE x.net es e) (mE x.net es (e+1))
    obtain ⟨TL,cC⟩:∃y,setLes TB T (mE x.net es e)=y:=⟨_,rfl⟩
    have aP:TL.length=TB.length:=by rw [←cC];exact Am _ _ _
    rw [cC] at bb cB Z
    obtain ⟨el,bw⟩:∃y,es[e]?.getD LeT.zero=y:=⟨_,rfl⟩
    rw [bw] at a5 bd bZ co
    obtain ⟨a,b⟩:=el
    have eU:Hid (setLes TB T (mE x.net es (e+1))=setLes TL T ((tAt TL T).les.set e (leF x.net es ⟨a,b⟩))):=by show _=_;rw [bb,co,cB]
    have bE:Hid (e<(tAt TL T).les.length):=by show _<_;rw [bb,aH];omega
    have dy:=U
    have U:Hid (T<TL.length):=by show _<_;rw [aP];exact dy.out
    obtain ⟨er,dQ⟩:=hd2 bZ dn
    clear cC bb cB aP bw bZ co aH aQ dn
    obtain rfl:=dQ.out
    simp only at a5 bd
    obtain ⟨e0,e1⟩:=ib (by omega:e<en)
    have ci:=Z.out.pushBlk #[.int .i64 a,.int .i64 b] 94
    go_upto_region 29 with fail
    obtain ⟨gE,b9⟩:∃g,wr.heap.size=g:=⟨_,rfl⟩
    rw [b9] at ci
    (try rw [b9])
    have aZ:=Hd ci
    clear b9 ci a5 bd eA aX Z
    generalize wr.alloc (.cells #[.int .i64 a,.int .i64 b] 94)=W2 at *
    obtain ⟨wT,ap⟩:∃y,W2.drew=y:=⟨_,rfl⟩
    have HT:Hid (aJ W9 wT [.cel (dW (TL)) (.slice (some ⟨gT,0,none⟩) N c),.blk gK #[.int .i64 3,.int .i64 it,.slice (some ⟨be,oe,none⟩) en ec] 89,.blk gE #[.int .i64 a,.int .i64 b] 94]):=Hd (by rw [←ap];exact aZ.out.drew)
    obtain ⟨bf,lb,ma,mb,hA,ar,cT,ha,al⟩:=Fa HT.out 0 rfl (t:=T) U.out (e:=e) bE.out
    injection hA with hA
    injection hA with hA
    subst hA
    obtain ⟨aE,cm⟩:=hd2 al ha
    clear al ha
    have eI:e<ma:=by rw [cm.out];exact bE.out
    have aC:(e:Int)<(ma:Int):=by omega
    have V:Hid (∀(v:World),Below wT.heap.size wT v→aJ W9 v [.cel (dW (TL)) (.slice (some ⟨gT,0,none⟩) N c),.blk gK #[.int .i64 3,.int .i64 it,.slice (some ⟨be,oe,none⟩) en ec] 89,.blk gE #[.int .i64 a,.int .i64 b] 94]→(v.cell? ⟨gT,T * 4+1,none⟩=some (.slice (some ⟨lb,0,none⟩) ma mb)/\K4 v gY (.int .i64 x.net.inputs) (.slice SA sn sc) (.slice LA ln lc) (.slice OA on oc) (K3 v gK (.int .i64 3) (.int .i64 it) (.slice (some ⟨be,oe,none⟩) en ec) (v.cell? ⟨gE,0,none⟩=some (.int .i64 a)/\v.cell? ⟨gE,1,none⟩=some (.int .i64 b))))):=Hd fun v hv h=>⟨(hv.cell (p:=⟨gT,T * 4+1,none⟩) ar).trans cT,aF (k:=0) (aD h.bel ad.out) rfl,aF (k:=1) (aD h.bel ad.out) rfl,aF (k:=2) (aD h.bel ad.out) rfl,aF (k:=3) (aD h.bel ad.out) rfl,aF (k:=0) (h.blk 1 rfl).1 rfl,aF (k:=1) (h.blk 1 rfl).1 rfl,aF (k:=2) (h.blk 1 rfl).1 rfl,aF (k:=0) (h.blk 2 rfl).1 rfl,aF (k:=1) (h.blk 2 rfl).1 rfl⟩
    have cG:=HT.out.bel
    refine wp_region_noPanic ?_
    have aN:=V.out _ (Below.refl _ _) HT.out
    rw [←ap] at aN
    refine iR 11 (fun w'=>w'.cell? ⟨gT,T * 4+1,none⟩=some (.slice (some ⟨lb,0,none⟩) ma mb)/\K4 w' gY (.int .i64 x.net.inputs) (.slice SA sn sc) (.slice LA ln lc) (.slice OA on oc) (K3 w' gK (.int .i64 3) (.int .i64 it) (.slice (some ⟨be,oe,none⟩) en ec) (w'.cell? ⟨gE,0,none⟩=some (.int .i64 a)/\w'.cell? ⟨gE,1,none⟩=some (.int .i64 b)))) (aN) (fun B D=>?_)
    rw [ap] at D ⊢
    refine onT B 0 opA D ?_
    refine onT B 1 (opB opA) D ?_
    refine onT B 2 (opB (opB opA)) D ?_
    refine onT B 3 (opB (opB (opB opA))) D ?_
    refine onT B 4 (opC opA) D ?_
    refine onT B 5 (opC (opB opA)) D ?_
    refine onT B 6 (opC (opB (opB opA))) D ?_
    refine onT B 7 (opC (opB (opB (opB opA)))) D ?_
    refine onT B 8 (opC (opC opA)) D ?_
    refine uF B 9 (opC (opC (opB opA))) (fun K hK=>?_)
    go_simp
    go_at_call 74
    with_reducible refine (xz x.net SA LA OA sn sc ln lc on oc it es (some ⟨be,oe,none⟩) en ec a b _ (H1.out.net.below (aA z.out cG)) HF.out.pack.net (HE.out.below (aA z.out cG)) cV.out (by omega) er.out).mono ?_
    rintro _ w7 ⟨Sx,mx,qx,rfl,s7⟩
    have cz:=Hd (HT.out.below s7.bel)
    obtain ⟨B7,S7⟩:=hd2 s7.bel s7
    clear s7
    refine hK.out _ _ (V.out _ B7.out cz.out) (fun D=>?_)
    clear hK K
    try simp only [Act.put,List.setIfInBounds_toArray,List.set_cons_zero,List.set_cons_succ]
    refine onT B 10 (opC (opC (opB (opB opA)))) D ?_
    obtain ⟨q8,aL,hu⟩:=aE.out w7 (leF x.net es ⟨a,b⟩) Sx mx qx S7.out
    obtain ⟨⟨z0,c0⟩,f0⟩:=aL 0 (by omega)
    obtain ⟨⟨z1,c1⟩,f1⟩:=aL 1 (by omega)
    obtain ⟨⟨z2,c2⟩,f2⟩:=aL 2 (by omega)
    obtain ⟨⟨z3,c3⟩,f3⟩:=aL 3 (by omega)
    rw [Nat.add_zero] at c0 f0
    have ag:=Hd hu
    clear aL hu
    refine tF B 11 (opC (opC (opB (opB (opB opA))))) ?_
    go_wp2_with fail
    refine NoPanic.normal ?_
    go_wp2_with fail
    go_roundw
    ·exact ⟨e+1,by omega,by go_num,by rw [eU.out];exact ag.out.sub (List.Sublist.cons_cons _ (List.Sublist.cons_cons _ (List.nil_sublist _)))⟩
    simp [intOf];omega
   have bL:e=en:=by omega
   have et:=dF (by omega:en<=e)
   have ao:Hid (fH d x (k+1)=setLes TB T (mE x.net es e)):=by show _=_;rw [R.out,bL,←az.out]
   clear bL
   go_wp2_with fail
   go_roundw
   ·exact ⟨k+1,by omega,by go_num,by rw [ao.out];exact Z.out.sub (List.Sublist.cons_cons _ (List.nil_sublist _))⟩
   simp [intOf];omega
  have a4:k=bn:=by omega
  have cg:=dF (by omega:bn<=k)
  have HC:Hid (cfgD d x=fH d x k):=by show _=_;rw [show cfgD d x=ql d x from if_pos HF.out];unfold ql;rw [bg.out,a4]
  have HR:Hid (aJ w wr [.cel (dW (cfgD d x)) (.slice (some ⟨gT,0,none⟩) N c)]):=by
   have h1:=J.out.lowerC z.out (lo:=W9.heap.size) (hi:=W9.heap.size) z.out.size (Nat.le_refl _) (Chg.refl' _ _ _)
   show aJ _ _ _
   rw [HC.out]
   exact h1
  clear a4
  go_wp2_with fail
  go_ret2
  exact ⟨some ⟨gT,0,none⟩,N,c,by rw [ae HF.out];rfl,HR.out⟩
 rw [bJ hf]
 rintro _ w1 ⟨rfl,b1⟩
 have HR:Hid (aJ w w1 [.cel (dW (cfgD d x)) (.slice none 0 0)]):=by
  show aJ _ _ _
  rw [show cfgD d x=[] from if_neg hf]
  exact (aJ.nil (aA z.out b1)).pushNil 110 4
 have cQ:=Hd hf
 have eB:=Hd (bJ hf)
 clear b1 hf x0 x1 x2 x3 lx y0 y1 y2 y3 y4 y5 y6 y7 ly
 go_wp2_with fail
 go_ret2
 exact ⟨none,0,0,by rw [eB.out];rfl,HR.out⟩
end Go.Proofs.YtofihjoanjkdmaaGreat
