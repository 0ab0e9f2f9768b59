/- The configuration of a logic element in the program: leConfig (printed by mkc2.py). -/
import Derived.Test.YtofihjoanjkdmaaGreatCfgE
import Derived.Test.YtofihjoanjkdmaaGreatHeldT
import Derived.Test.YtofihjoanjkdmaaGreatLayDM
import Derived.Test.YtofihjoanjkdmaaGreatLayG7
namespace Go.Proofs.YtofihjoanjkdmaaGreat
set_option maxHeartbeats 16000000
set_option maxRecDepth 100000
open Go.RowKit
theorem xz (l:ag) (SA LA OA:Option Addr) (sn sc ln lc on oc:Nat) (it:Int) (es:List LeT) (EA:Option Addr) (en ec:Nat) (a b:Int) (w:World) (hN:fU w l SA LA OA sn sc ln lc on oc) (hf:az l) (hE:RdC w w.heap.size (cZ es) (.slice EA en ec)) (hK:∀e∈es,dG l e) (c6:en<=100000) (bO:dG l ⟨a,b⟩) :
  Calls Tryz.prog 74 #[jE l SA LA OA sn sc ln lc on oc,.agg #[.int .i64 3,.int .i64 it,.slice EA en ec],.agg #[.int .i64 a,.int .i64 b]] w fun e w'=>∃S m q,e = .returned (.agg #[.slice S m q,.int .i64 (leF l es ⟨a,b⟩).mask,.int .i64 (leF l es ⟨a,b⟩).flop,.int .i64 (leF l es ⟨a,b⟩).init])/\aJ w w' [.cel (aH (leF l es ⟨a,b⟩).sel) (.slice S m q)]:=by
 obtain ⟨bl,bh,cs⟩:=hN.lens
 have cX:sn<=12:=by rw [←bl];exact hf.nseq
 have c9:ln<=400:=by rw [←bh];exact hf.nlut
 obtain ⟨bB,cj,HN,HF,HE,HK,aq⟩:=hd7 bl bh hN hf hE hK bO
 clear hN hf hE hK bO bl bh cs
 have u:=Hd (aB (aB (aB (aB (Below.refl w.heap.size w) (.cells (ai l SA LA OA sn sc ln lc on oc) 41)) (.cells #[.int .i64 3,.int .i64 it,.slice EA en ec] 89)) (.cells #[.int .i64 a,.int .i64 b] 94)) (.cells #[.slice none 0 0,.int .i64 0,.int .i64 0,.int .i64 0] 121))
 have h1:=aW (.cells #[.slice none 0 0,.int .i64 0,.int .i64 0,.int .i64 0] 121) (aW (.cells #[.int .i64 a,.int .i64 b] 94) (aW (.cells #[.int .i64 3,.int .i64 it,.slice EA en ec] 89) (aI w (.cells (ai l SA LA OA sn sc ln lc on oc) 41))))
 have h2:=aW (.cells #[.slice none 0 0,.int .i64 0,.int .i64 0,.int .i64 0] 121) (aW (.cells #[.int .i64 a,.int .i64 b] 94) (aI (w.alloc (.cells (ai l SA LA OA sn sc ln lc on oc) 41)) (.cells #[.int .i64 3,.int .i64 it,.slice EA en ec] 89)))
 have h3:=aW (.cells #[.slice none 0 0,.int .i64 0,.int .i64 0,.int .i64 0] 121) (aI ((w.alloc (.cells (ai l SA LA OA sn sc ln lc on oc) 41)).alloc (.cells #[.int .i64 3,.int .i64 it,.slice EA en ec] 89)) (.cells #[.int .i64 a,.int .i64 b] 94))
 have h4:=aI (((w.alloc (.cells (ai l SA LA OA sn sc ln lc on oc) 41)).alloc (.cells #[.int .i64 3,.int .i64 it,.slice EA en ec] 89)).alloc (.cells #[.int .i64 a,.int .i64 b] 94)) (.cells #[.slice none 0 0,.int .i64 0,.int .i64 0,.int .i64 0] 121)
 simp only [World.size_alloc] at h2 h3 h4
 obtain ⟨I,af,Z,ae⟩:=hd4 h1 h2 h3 h4
 clear h1 h2 h3 h4
 go_enter Tryz.func74,Tryz.ntmps74
 go_upto_region 1 with fail
 obtain ⟨gN,bE⟩:∃g,w.heap.size=g:=⟨_,rfl⟩
 obtain ⟨gK,bA⟩:∃g,gN+1=g:=⟨_,rfl⟩
 obtain ⟨gE,bC⟩:∃g,gK+1=g:=⟨_,rfl⟩
 obtain ⟨gR,bm⟩:∃g,gE+1=g:=⟨_,rfl⟩
 generalize (((w.alloc (.cells (ai l SA LA OA sn sc ln lc on oc) 41)).alloc (.cells #[.int .i64 3,.int .i64 it,.slice EA en ec] 89)).alloc (.cells #[.int .i64 a,.int .i64 b] 94)).alloc (.cells #[.slice none 0 0,.int .i64 0,.int .i64 0,.int .i64 0] 121)=Q at *
 rw [bE] at I af Z ae
 rw [bA] at af Z ae
 rw [bC] at Z ae
 rw [bm] at ae
 (try rw [bE])
 (try rw [bA])
 (try rw [bC])
 (try rw [bm])
 have bq:Hid (w.heap.size<=gR):=by show _<=_;omega
 clear bE bA bC bm
 have cA:=fun W=>FT W
 have aV:=Hd (((aJ.nil (Below.refl Q.heap.size Q)).pushOwn (aB (Below.refl _ _) (.cells #[.int .i64 0,.int .i64 0,.int .i64 0,.int .i64 0] 3)) (Own.made (cur:=#[.int .i64 0,.int .i64 0,.int .i64 0,.int .i64 0]) (aI Q _) (Nat.le_refl _) (by unfold maxLen;simp) rfl rfl:Own Q.heap.size (Q.alloc (.cells #[.int .i64 0,.int .i64 0,.int .i64 0,.int .i64 0] 3)) (some ⟨Q.heap.size,0,none⟩) 4 4 [0,0,0,0])).pushBlk #[.slice (some ⟨Q.heap.size,0,none⟩) 4 4,.int .i64 0,.int .i64 0,.int .i64 0] 121)
 go_upto_region 2 with fail
 obtain ⟨z,a2⟩:∃g,Q.heap.size=g:=⟨_,rfl⟩
 obtain ⟨D,bp⟩:∃g,(Q.alloc (.cells #[.int .i64 0,.int .i64 0,.int .i64 0,.int .i64 0] 3)).heap.size=g:=⟨_,rfl⟩
 have bc:z+1=D:=by rw [←bp,←a2];simp
 rw [a2,bp] at aV
 (try rw [a2])
 (try rw [bc])
 clear a2 bp bc cA
 generalize (Q.alloc (.cells #[.int .i64 0,.int .i64 0,.int .i64 0,.int .i64 0] 3)).alloc (.cells #[.slice (some ⟨z,0,none⟩) 4 4,.int .i64 0,.int .i64 0,.int .i64 0] 121)=W1 at *
 have U:Hid (aJ Q W1 [.cel (aH ([0,0,0,0])) (.slice (some ⟨z,0,none⟩) 4 4),.blk D #[.slice (some ⟨z,0,none⟩) 4 4,.int .i64 (0),.int .i64 (0),.int .i64 (0)] 121]):=aV
 clear aV
 obtain ⟨e0,G⟩:=wO (aD U.out.bel Z.out)
 by_cases ha:0<=a
 ·clear e0 G
  obtain ⟨m,hm⟩:∃m:Nat,a=(m:Int):=⟨a.toNat,by omega⟩
  subst hm
  have a5:m<l.luts.length:=by have h1:(m:Int)<(l.luts.length:Int):=aq.out.lut.2;omega
  have c4:m<ln:=by rw [←cj.out];exact a5
  obtain ⟨gt,ot,IA,im,ic,b4,a4,t0,t1,rI⟩:=HN.out.lt.lut' (k:=m) a5
  have av:=Hd rI.ints
  have bu:im<=4:=by rw [←av.out.1];exact (HF.out.luts m a5).1
  have cy:Hid ((l.luts[m]?.getD Lt.zero).ins.length<=4):=(HF.out.luts m a5).1
  have cu:=Hd b4
  have b9:Hid (∀v,Below w.heap.size w v→v.cell? ⟨gt,ot+m * 2,none⟩=some (.slice IA im ic)):=fun v hv=>(hv.cell (p:=⟨gt,ot+m * 2,none⟩) a4).trans t0
  have bW:Hid (∀v,Below w.heap.size w v→v.cell? ⟨gt,ot+m * 2+1,none⟩=some (.int .i64 (l.luts[m]?.getD Lt.zero).mask)):=fun v hv=>(hv.cell (p:=⟨gt,ot+m * 2+1,none⟩) a4).trans t1
  clear b4 t0 t1 rI
  obtain rfl:=cu.out
  have da:decide ((m:Int)≥0)=true:=by simp
  obtain ⟨c3,cV⟩:=ib (by omega:m<ln)
  have t1:=bW.out _ (aA u.out U.out.bel)
  have t0:=b9.out _ (aA u.out U.out.bel)
  have bw:=aK (aA u.out U.out.bel) a4
  have am:Hid ((leF l es ⟨(m:Int),b⟩).sel=lJ (iM l es) (l.luts[m]?.getD Lt.zero).ins (l.luts[m]?.getD Lt.zero).ins.length/\(leF l es ⟨(m:Int),b⟩).mask=(l.luts[m]?.getD Lt.zero).mask):=⟨by unfold leF;simp,by unfold leF;simp⟩
  generalize (l.luts[m]?.getD Lt.zero).mask=mk at *
  have H:=(U.out.blk 1 rfl).1
  have b1:=aF (k:=1) H rfl
  have bk:=aX H 1
  have lb:=aC H
  clear H
  obtain ⟨-,-,n2,au⟩:=jX (aD U.out.bel I.out)
  obtain ⟨e0,G⟩:=wO (aD U.out.bel Z.out)
  go_upto_region 4 with fail
  have aj:Hid (aJ Q (W1.setCell ⟨D,1,none⟩ (.int .i64 mk)) [.cel (aH ([0,0,0,0])) (.slice (some ⟨z,0,none⟩) 4 4),.blk D #[.slice (some ⟨z,0,none⟩) 4 4,.int .i64 (mk),.int .i64 (0),.int .i64 (0)] 121]):=Hd (U.out.put 1 rfl 1 (.int .i64 mk))
  generalize W1.setCell ⟨D,1,none⟩ (.int .i64 mk)=W2 at *
  clear t0 t1 bw b1 bk lb n2 au e0 G
  have t0:=b9.out _ (aA u.out aj.out.bel)
  have bw:=aK (aA u.out aj.out.bel) a4
  obtain ⟨-,-,n2,au⟩:=jX (aD aj.out.bel I.out)
  obtain ⟨e0,G⟩:=wO (aD aj.out.bel Z.out)
  go_wp2_with fail
  clear t0 bw n2 au e0 G
  go_loopw [31] (fun i wr=>∃j:Nat,j<=im/\i = .int .i64 (j:Int)/\aJ Q wr [.cel (aH (lJ (iM l es) (l.luts[m]?.getD Lt.zero).ins j)) (.slice (some ⟨z,0,none⟩) 4 4),.blk D #[.slice (some ⟨z,0,none⟩) 4 4,.int .i64 (mk),.int .i64 (0),.int .i64 (0)] 121]) (fun i _=>im - (intOf i).toNat)
  ·exact ⟨0,by omega,rfl,aj.out⟩
  obtain ⟨j,hj,rfl,hs⟩:=hrel
  have HS:=Hd hs
  clear hs
  by_cases ce:j<im
  ·have dj:=dT (by omega:j<im)
   have aO:j<(l.luts[m]?.getD Lt.zero).ins.length:=by rw [av.out.1];exact ce
   obtain ⟨bi,oi,aR,a6,aN⟩:=av.out.2 (by omega)
   have bg:=wY (iM l es) cy.out aO
   have ci:=((aA u.out HS.out.bel).cell (p:=⟨bi,oi+j,none⟩) a6).trans (aN j ce)
   have c5:=aK (aA u.out HS.out.bel) a6
   obtain ⟨nd,aE⟩:∃y,(l.luts[m]?.getD Lt.zero).ins[j]?.getD 0=y:=⟨_,rfl⟩
   rw [aE] at ci bg
   obtain ⟨bP,bH⟩:=hd2 bg aR
   clear aR aN aE bg aO
   obtain rfl:=bH.out
   obtain ⟨j0,j1⟩:=ib (by omega:j<im)
   have j4:(j:Int)<4:=by omega
   have cv:j<4:=by omega
   obtain ⟨SL,b5⟩:∃y,lJ (iM l es) (l.luts[m]?.getD Lt.zero).ins j=y:=⟨_,rfl⟩
   rw [b5] at HS bP
   clear b5
   have aS:=Hd (fun (v:World) (hv:Below Q.heap.size Q v) (node:Int)=>qP l SA (some ⟨gt,ot,none⟩) OA sn sc ln lc on oc it es EA en ec node v (HN.out.below (aA u.out hv)) HF.out (HE.out.below (aA u.out hv)) HK.out (by omega))
   have V:Hid (∀(v:World),aJ Q v [.cel (aH (SL)) (.slice (some ⟨z,0,none⟩) 4 4),.blk D #[.slice (some ⟨z,0,none⟩) 4 4,.int .i64 (mk),.int .i64 (0),.int .i64 (0)] 121]→(v.cell? ⟨D,0,none⟩=some (.slice (some ⟨z,0,none⟩) 4 4)/\K4 v gN (.int .i64 l.inputs) (.slice SA sn sc) (.slice (some ⟨gt,ot,none⟩) ln lc) (.slice OA on oc) (K3e v gK (.int .i64 3) (.int .i64 it) (.slice EA en ec)))):=Hd fun v h=>⟨aF (k:=0) (h.blk 1 rfl).1 rfl,aF (k:=0) (aD h.bel I.out) rfl,aF (k:=1) (aD h.bel I.out) rfl,aF (k:=2) (aD h.bel I.out) rfl,aF (k:=3) (aD h.bel I.out) rfl,aF (k:=0) (aD h.bel af.out) rfl,aF (k:=1) (aD h.bel af.out) rfl,aF (k:=2) (aD h.bel af.out) rfl⟩
   have HT:Hid (aJ Q wr.drew [.cel (aH (SL)) (.slice (some ⟨z,0,none⟩) 4 4),.blk D #[.slice (some ⟨z,0,none⟩) 4 4,.int .i64 (mk),.int .i64 (0),.int .i64 (0)] 121]):=Hd HS.out.drew
   have bv:=HT.out.bel
   go_upto_region 7 with fail
   refine wp_region_noPanic ?_
   refine iR 8 (fun w'=>w'.cell? ⟨D,0,none⟩=some (.slice (some ⟨z,0,none⟩) 4 4)/\K4 w' gN (.int .i64 l.inputs) (.slice SA sn sc) (.slice (some ⟨gt,ot,none⟩) ln lc) (.slice OA on oc) (K3e w' gK (.int .i64 3) (.int .i64 it) (.slice EA en ec))) (V.out _ HT.out) (fun J R=>?_)
   refine onT J 0 opA R ?_
   refine onT J 1 (opB opA) R ?_
   refine onT J 2 (opB (opB opA)) R ?_
   refine onT J 3 (opB (opB (opB opA))) R ?_
   refine onT J 4 (opC opA) R ?_
   refine onT J 5 (opC (opB opA)) R ?_
   refine uF J 6 (opC (opB (opB opA))) (fun K hK=>?_)
   go_simp
   go_at_call 59
   with_reducible refine (aS.out _ bv _).mono ?_
   rintro _ w7 ⟨rfl,b7⟩
   have aG:=Hd (HT.out.below b7)
   clear b7
   refine hK.out _ _ (V.out _ aG.out) (fun R=>?_)
   clear hK K
   try simp only [Act.put,List.setIfInBounds_toArray,List.set_cons_zero,List.set_cons_succ]
   refine onT J 7 (opC (opB (opB (opB opA)))) R ?_
   obtain ⟨_,ad,_,q8,c8,f8,hu⟩:=aG.out.setI 0 (i:=j) rfl cv
   injection ad with ad
   injection ad with ad
   subst ad
   refine tF J 8 (opC (opC opA)) ?_
   go_wp2_with fail
   refine NoPanic.normal ?_
   have cq:=Hd (hu (iM l es nd))
   go_wp2_with fail
   go_roundw
   ·exact ⟨j+1,by omega,by go_num,by have h9:=cq.out;rw [bP.out] at h9;exact h9⟩
   simp [intOf];omega
  have bS:j=im:=by omega
  have dj:=dF (by omega:im<=j)
  have aO:j=(l.luts[m]?.getD Lt.zero).ins.length:=by rw [av.out.1];exact bS
  rw [aO] at HS
  obtain ⟨WR,rfl⟩:∃y,y=wr:=⟨wr,rfl⟩
  have a1:=HS
  clear bS aO HS
  by_cases H:0<=b
  ·have B:=a1
   obtain ⟨-,e1,G⟩:=jv (aD B.out.bel Z.out)
   have df:decide (b≥0)=true:=decide_eq_true H
   obtain ⟨f,hf⟩:∃f:Nat,b=(f:Int):=⟨b.toNat,by omega⟩
   subst hf
   have aQ:f<l.seqs.length:=by have h1:(f:Int)<(l.seqs.length:Int):=aq.out.ff.2;omega
   have cr:f<sn:=by rw [←bB.out];exact aQ
   obtain ⟨sb,so,ck,cm,cz,aZ,ao,_,d1,_,_⟩:=HN.out.sq.sq' (k:=f) aQ
   have bo:=Hd aZ
   have bD:Hid (∀v,Below w.heap.size w v→v.cell? ⟨sb,so+f * 3+1,none⟩=some (.int .i64 (l.seqs[f]?.getD Sq.zero).init)):=fun v hv=>(hv.cell (p:=⟨sb,so+f * 3+1,none⟩) ao).trans d1
   clear aZ d1
   obtain rfl:=bo.out
   obtain ⟨bV,b8⟩:=ib (by omega:f<sn)
   have H:=(B.out.blk 1 rfl).1
   obtain ⟨-,-,b2,b3⟩:=cs4 H
   have br:=aX H 2
   have bs:=aX H 3
   have lb:=aC H
   clear H
   obtain ⟨-,n1,au⟩:=jv (aD B.out.bel I.out)
   have s1:=bD.out _ (aA u.out B.out.bel)
   have bF:=aK (aA u.out B.out.bel) ao
   have bG:sb<D:=Nat.lt_of_lt_of_le (aK u.out ao) (B.out.blk 1 rfl).2
   have HI:Hid ((leF l es ⟨(m:Int),(f:Int)⟩).flop=1/\(leF l es ⟨(m:Int),(f:Int)⟩).init=(l.seqs[f]?.getD Sq.zero).init):=⟨by unfold leF;simp,by unfold leF;simp⟩
   generalize (l.seqs[f]?.getD Sq.zero).init=ii at *
   go_upto_region 14 with fail
   have Y:Hid (aJ Q ((WR.setCell ⟨D,2,none⟩ (.int .i64 1)).setCell ⟨D,3,none⟩ (.int .i64 ii)) [.cel (aH (lJ (iM l es) (l.luts[m]?.getD Lt.zero).ins (l.luts[m]?.getD Lt.zero).ins.length)) (.slice (some ⟨z,0,none⟩) 4 4),.blk D #[.slice (some ⟨z,0,none⟩) 4 4,.int .i64 (mk),.int .i64 (1),.int .i64 (ii)] 121]):=Hd ((B.out.put 1 rfl 2 (.int .i64 1)).put 1 rfl 3 (.int .i64 ii))
   generalize (WR.setCell ⟨D,2,none⟩ (.int .i64 1)).setCell ⟨D,3,none⟩ (.int .i64 ii)=WF at *
   clear s1 bF bG b2 b3 br bs lb n1 au e1 G
   obtain ⟨b0,b1,b2,b3,lb⟩:=cO ((Y.out.blk 1 rfl).1)
   have hr:=aD Y.out.bel ae.out
   obtain ⟨r0,r1,r2,r3⟩:=cs4 hr
   have rf:=fun j=>aX hr j
   have lr:=aC hr
   have aY:=Hd hr
   clear hr
   go_wp2_with fail
   refine bodyPost_ret (v := .agg #[.slice (some ⟨z,0,none⟩) 4 4,.int .i64 (mk),.int .i64 (1),.int .i64 (ii)]) (fE Tryz.results74 rfl (gV (gV (gV (gV aY.out (.slice (some ⟨z,0,none⟩) 4 4) rfl) (.int .i64 (mk)) rfl) (.int .i64 (1)) rfl) (.int .i64 (ii)) rfl) Tryz.underlying121 (by kernel_rfl)) rfl ⟨some ⟨z,0,none⟩,4,4,by rw [HI.out.1,HI.out.2,am.out.2],?_⟩
   rw [am.out.1]
   exact (Y.out.sub (List.Sublist.cons_cons _ (List.nil_sublist _))).lowerC u.out (lo:=gR) (hi:=gR+1) (by have:=bq.out;omega) (by have:=aC ae.out;omega) ((((Chg.refl' _ _ _).set (by omega) (by omega) _ |>.set (by omega) (by omega) _) |>.set (by omega) (by omega) _) |>.set (by omega) (by omega) _)
  have B:=a1
  obtain ⟨-,e1,G⟩:=jv (aD B.out.bel Z.out)
  have df:decide (b≥0)=false:=decide_eq_false H
  have HI:Hid ((leF l es ⟨(m:Int),b⟩).flop=0/\(leF l es ⟨(m:Int),b⟩).init=0):=⟨by unfold leF;exact if_neg H,by unfold leF;exact if_neg H⟩
  clear H
  go_upto_region 14 with fail
  have Y:=B
  obtain ⟨WF,rfl⟩:∃y,y=WR:=⟨WR,rfl⟩
  clear e1 G
  obtain ⟨b0,b1,b2,b3,lb⟩:=cO ((Y.out.blk 1 rfl).1)
  have hr:=aD Y.out.bel ae.out
  obtain ⟨r0,r1,r2,r3⟩:=cs4 hr
  have rf:=fun j=>aX hr j
  have lr:=aC hr
  have aY:=Hd hr
  clear hr
  go_wp2_with fail
  refine bodyPost_ret (v := .agg #[.slice (some ⟨z,0,none⟩) 4 4,.int .i64 (mk),.int .i64 (0),.int .i64 (0)]) (fE Tryz.results74 rfl (gV (gV (gV (gV aY.out (.slice (some ⟨z,0,none⟩) 4 4) rfl) (.int .i64 (mk)) rfl) (.int .i64 (0)) rfl) (.int .i64 (0)) rfl) Tryz.underlying121 (by kernel_rfl)) rfl ⟨some ⟨z,0,none⟩,4,4,by rw [HI.out.1,HI.out.2,am.out.2],?_⟩
  rw [am.out.1]
  exact (Y.out.sub (List.Sublist.cons_cons _ (List.nil_sublist _))).lowerC u.out (lo:=gR) (hi:=gR+1) (by have:=bq.out;omega) (by have:=aC ae.out;omega) ((((Chg.refl' _ _ _).set (by omega) (by omega) _ |>.set (by omega) (by omega) _) |>.set (by omega) (by omega) _) |>.set (by omega) (by omega) _)
 clear e0 G
 have da:decide (a≥0)=false:=decide_eq_false ha
 have H:0<=b:=by have h1:=aq.out.lut.1;have h2:=aq.out.ff.1;have h3:=aq.out.one;change -1<=a at h1;change -1<=b at h2;change ¬(a=-1/\b=-1) at h3;omega
 obtain ⟨f0,bY⟩:∃f:Nat,b=(f:Int):=⟨b.toNat,by omega⟩
 have aT:f0<l.seqs.length:=by have h1:b<(l.seqs.length:Int):=aq.out.ff.2;omega
 have cG:f0<sn:=by rw [←bB.out];exact aT
 obtain ⟨ak,ar,IA,im,ic,bb,cb,_,_,d2,rI⟩:=HN.out.sq.sq' (k:=f0) aT
 have av:=Hd rI.ints
 have bu:1<=im:=by
  rw [←av.out.1]
  rcases (HF.out.seqs f0 aT).1 with h|h
  ·rw [h.2.2];exact Nat.le_refl _
  rw [h.2.2];omega
 have b6:=Hd bb
 have ct:Hid (∀v,Below w.heap.size w v→v.cell? ⟨ak,ar+f0 * 3+2,none⟩=some (.slice IA im ic)):=fun v hv=>(hv.cell (p:=⟨ak,ar+f0 * 3+2,none⟩) cb).trans d2
 obtain ⟨bi,oi,aR,a6,aN⟩:=av.out.2 bu
 have a3:=aN 0 (by omega)
 rw [Nat.add_zero] at a3
 obtain ⟨nd,aE⟩:∃y,(l.seqs[f0]?.getD Sq.zero).ins[0]?.getD 0=y:=⟨_,rfl⟩
 rw [aE] at a3
 have cl:Hid (∀v,Below w.heap.size w v→v.cell? ⟨bi,oi,none⟩=some (.int .i64 nd)):=fun v hv=>(hv.cell (p:=⟨bi,oi,none⟩) a6).trans a3
 have bH:=Hd aR
 have am:Hid ((leF l es ⟨a,b⟩).sel=[iM l es nd,0,0,0]/\(leF l es ⟨a,b⟩).mask=2):=by
  constructor
  ·unfold leF
   simp only [if_neg ha]
   rw [bY,Int.toNat_natCast,aE]
  unfold leF
  exact if_neg ha
 clear bb d2 rI aR aN a3 aE ha
 obtain rfl:=b6.out
 obtain rfl:=bH.out
 have bV:(0:Int)<=b:=H
 have b8:b<(sn:Int):=by omega
 have c1:(0:Int)<(im:Int):=by omega
 have cR:0<im:=bu
 have c0:(0:Int)<4:=by omega
 have H:=(U.out.blk 1 rfl).1
 have b1:=aF (k:=1) H rfl
 have bk:=aX H 1
 have lb:=aC H
 clear H
 obtain ⟨e0,G⟩:=wO (aD U.out.bel Z.out)
 go_upto_region 10 with fail
 have aj:Hid (aJ Q (W1.setCell ⟨D,1,none⟩ (.int .i64 2)) [.cel (aH ([0,0,0,0])) (.slice (some ⟨z,0,none⟩) 4 4),.blk D #[.slice (some ⟨z,0,none⟩) 4 4,.int .i64 (2),.int .i64 (0),.int .i64 (0)] 121]):=Hd (U.out.put 1 rfl 1 (.int .i64 2))
 generalize W1.setCell ⟨D,1,none⟩ (.int .i64 2)=wr at *
 clear b1 bk lb e0 G
 subst bY
 have aS:=Hd (fun (v:World) (hv:Below Q.heap.size Q v) (node:Int)=>qP l (some ⟨ak,ar,none⟩) LA OA sn sc ln lc on oc it es EA en ec node v (HN.out.below (aA u.out hv)) HF.out (HE.out.below (aA u.out hv)) HK.out (by omega))
 have V:Hid (∀(v:World),aJ Q v [.cel (aH ([0,0,0,0])) (.slice (some ⟨z,0,none⟩) 4 4),.blk D #[.slice (some ⟨z,0,none⟩) 4 4,.int .i64 (2),.int .i64 (0),.int .i64 (0)] 121]→(v.cell? ⟨D,0,none⟩=some (.slice (some ⟨z,0,none⟩) 4 4)/\K4 v gN (.int .i64 l.inputs) (.slice (some ⟨ak,ar,none⟩) sn sc) (.slice LA ln lc) (.slice OA on oc) (K3 v gK (.int .i64 3) (.int .i64 it) (.slice EA en ec) (v.cell? ⟨gE,1,none⟩=some (.int .i64 (f0:Int))/\v.cell? ⟨ak,ar+f0 * 3+2,none⟩=some (.slice (some ⟨bi,oi,none⟩) im ic)/\v.cell? ⟨bi,oi,none⟩=some (.int .i64 nd))))):=Hd fun v h=>⟨aF (k:=0) (h.blk 1 rfl).1 rfl,aF (k:=0) (aD h.bel I.out) rfl,aF (k:=1) (aD h.bel I.out) rfl,aF (k:=2) (aD h.bel I.out) rfl,aF (k:=3) (aD h.bel I.out) rfl,aF (k:=0) (aD h.bel af.out) rfl,aF (k:=1) (aD h.bel af.out) rfl,aF (k:=2) (aD h.bel af.out) rfl,aF (k:=1) (aD h.bel Z.out) rfl,ct.out _ (aA u.out h.bel),cl.out _ (aA u.out h.bel)⟩
 have HT:Hid (aJ Q wr.drew [.cel (aH ([0,0,0,0])) (.slice (some ⟨z,0,none⟩) 4 4),.blk D #[.slice (some ⟨z,0,none⟩) 4 4,.int .i64 (2),.int .i64 (0),.int .i64 (0)] 121]):=Hd aj.out.drew
 have bv:=HT.out.bel
 refine wp_region_noPanic ?_
 refine iR 15 (fun w'=>w'.cell? ⟨D,0,none⟩=some (.slice (some ⟨z,0,none⟩) 4 4)/\K4 w' gN (.int .i64 l.inputs) (.slice (some ⟨ak,ar,none⟩) sn sc) (.slice LA ln lc) (.slice OA on oc) (K3 w' gK (.int .i64 3) (.int .i64 it) (.slice EA en ec) (w'.cell? ⟨gE,1,none⟩=some (.int .i64 (f0:Int))/\w'.cell? ⟨ak,ar+f0 * 3+2,none⟩=some (.slice (some ⟨bi,oi,none⟩) im ic)/\w'.cell? ⟨bi,oi,none⟩=some (.int .i64 nd)))) (V.out _ HT.out) (fun J R=>?_)
 refine onT J 0 opA R ?_
 refine onT J 1 (opB opA) R ?_
 refine onT J 2 (opB (opB opA)) R ?_
 refine onT J 3 (opB (opB (opB opA))) R ?_
 refine onT J 4 (opC opA) R ?_
 refine onT J 5 (opC (opB opA)) R ?_
 refine onT J 6 (opC (opB (opB opA))) R ?_
 refine onT J 7 (opC (opB (opB (opB opA)))) R ?_
 refine onT J 8 (opC (opC opA)) R ?_
 refine onT J 9 (opC (opC (opB opA))) R ?_
 refine onT J 10 (opC (opC (opB (opB opA)))) R ?_
 refine onT J 11 (opC (opC (opB (opB (opB opA))))) R ?_
 refine onT J 12 (opC (opC (opC opA))) R ?_
 refine uF J 13 (opC (opC (opC (opB opA)))) (fun K hK=>?_)
 go_simp
 go_at_call 59
 with_reducible refine (aS.out _ bv _).mono ?_
 rintro _ w7 ⟨rfl,b7⟩
 have aG:=Hd (HT.out.below b7)
 clear b7
 refine hK.out _ _ (V.out _ aG.out) (fun R=>?_)
 clear hK K
 try simp only [Act.put,List.setIfInBounds_toArray,List.set_cons_zero,List.set_cons_succ]
 refine onT J 14 (opC (opC (opC (opB (opB opA))))) R ?_
 obtain ⟨_,ad,_,q8,c8,f8,hu⟩:=aG.out.setI 0 (i:=0) rfl (by omega)
 injection ad with ad
 injection ad with ad
 subst ad
 refine tF J 15 (opC (opC (opC (opB (opB (opB opA)))))) ?_
 go_wp2_with fail
 refine NoPanic.normal ?_
 have a1:Hid (aJ Q (w7.setCell ⟨z,0,none⟩ (.int .i64 (iM l es nd))) [.cel (aH ([iM l es nd,0,0,0])) (.slice (some ⟨z,0,none⟩) 4 4),.blk D #[.slice (some ⟨z,0,none⟩) 4 4,.int .i64 (2),.int .i64 (0),.int .i64 (0)] 121]):=Hd (hu (iM l es nd))
 generalize w7.setCell ⟨z,0,none⟩ (.int .i64 (iM l es nd))=WR at *
 clear c8 f8 q8 hu aG HT aj
 have B:=a1
 obtain ⟨-,e1,G⟩:=jv (aD B.out.bel Z.out)
 have df:decide ((f0:Int)≥0)=true:=by simp
 obtain ⟨f,rfl⟩:∃f:Nat,f=f0:=⟨f0,rfl⟩
 have aQ:f<l.seqs.length:=by have h1:(f:Int)<(l.seqs.length:Int):=aq.out.ff.2;omega
 have cr:f<sn:=by rw [←bB.out];exact aQ
 obtain ⟨sb,so,ck,cm,cz,aZ,ao,_,d1,_,_⟩:=HN.out.sq.sq' (k:=f) aQ
 have bo:=Hd aZ
 have bD:Hid (∀v,Below w.heap.size w v→v.cell? ⟨sb,so+f * 3+1,none⟩=some (.int .i64 (l.seqs[f]?.getD Sq.zero).init)):=fun v hv=>(hv.cell (p:=⟨sb,so+f * 3+1,none⟩) ao).trans d1
 clear aZ d1
 have aU:=bo.out
 injection aU with aU
 injection aU with h21 h22
 subst h21 h22
 obtain ⟨bV,b8⟩:=ib (by omega:f<sn)
 have H:=(B.out.blk 1 rfl).1
 obtain ⟨-,-,b2,b3⟩:=cs4 H
 have br:=aX H 2
 have bs:=aX H 3
 have lb:=aC H
 clear H
 obtain ⟨-,n1,au⟩:=jv (aD B.out.bel I.out)
 have s1:=bD.out _ (aA u.out B.out.bel)
 have bF:=aK (aA u.out B.out.bel) ao
 have bG:ak<D:=Nat.lt_of_lt_of_le (aK u.out ao) (B.out.blk 1 rfl).2
 have HI:Hid ((leF l es ⟨a,(f:Int)⟩).flop=1/\(leF l es ⟨a,(f:Int)⟩).init=(l.seqs[f]?.getD Sq.zero).init):=⟨by unfold leF;simp,by unfold leF;simp⟩
 generalize (l.seqs[f]?.getD Sq.zero).init=ii at *
 go_upto_region 14 with fail
 have Y:Hid (aJ Q ((WR.setCell ⟨D,2,none⟩ (.int .i64 1)).setCell ⟨D,3,none⟩ (.int .i64 ii)) [.cel (aH ([iM l es nd,0,0,0])) (.slice (some ⟨z,0,none⟩) 4 4),.blk D #[.slice (some ⟨z,0,none⟩) 4 4,.int .i64 (2),.int .i64 (1),.int .i64 (ii)] 121]):=Hd ((B.out.put 1 rfl 2 (.int .i64 1)).put 1 rfl 3 (.int .i64 ii))
 generalize (WR.setCell ⟨D,2,none⟩ (.int .i64 1)).setCell ⟨D,3,none⟩ (.int .i64 ii)=WF at *
 clear s1 bF bG b2 b3 br bs lb n1 au e1 G
 obtain ⟨b0,b1,b2,b3,lb⟩:=cO ((Y.out.blk 1 rfl).1)
 have hr:=aD Y.out.bel ae.out
 obtain ⟨r0,r1,r2,r3⟩:=cs4 hr
 have rf:=fun j=>aX hr j
 have lr:=aC hr
 have aY:=Hd hr
 clear hr
 go_wp2_with fail
 refine bodyPost_ret (v := .agg #[.slice (some ⟨z,0,none⟩) 4 4,.int .i64 (2),.int .i64 (1),.int .i64 (ii)]) (fE Tryz.results74 rfl (gV (gV (gV (gV aY.out (.slice (some ⟨z,0,none⟩) 4 4) rfl) (.int .i64 (2)) rfl) (.int .i64 (1)) rfl) (.int .i64 (ii)) rfl) Tryz.underlying121 (by kernel_rfl)) rfl ⟨some ⟨z,0,none⟩,4,4,by rw [HI.out.1,HI.out.2,am.out.2],?_⟩
 rw [am.out.1]
 exact (Y.out.sub (List.Sublist.cons_cons _ (List.nil_sublist _))).lowerC u.out (lo:=gR) (hi:=gR+1) (by have:=bq.out;omega) (by have:=aC ae.out;omega) ((((Chg.refl' _ _ _).set (by omega) (by omega) _ |>.set (by omega) (by omega) _) |>.set (by omega) (by omega) _) |>.set (by omega) (by omega) _)
theorem A8:(Tryz.prog.info? 110).map (fun i=>(i.zero,i.size,i.bytes))=some (some (.agg #[.slice none 0 0,.slice none 0 0,.int .i64 0,.int .i64 0]),4,64):=by kernel_rfl
theorem wE (d:Dev) (x:Lay) (SA LA OA BA CA PA RA:Option Addr) (sn sc ln lc on oc bn bc cn cc pn pc rn rc:Nat) (w:World) (h:lK w x SA LA OA BA CA PA RA sn sc ln lc on oc bn bc cn cc pn pc rn rc) (hl:EY x 1048576) (eA:pn<=pc) (b9:pc<=1048576) :
  Calls Tryz.prog 20 #[.agg (dv d),vR x SA LA OA BA CA PA RA sn sc ln lc on oc bn bc cn cc pn pc rn rc] w fun e w'=>∃S n c,e = .returned (.tuple #[.slice S n c,.bool (tb (jB d x))])/\aJ w w' [.cel (dW (cfgD d x)) (.slice S n c)]:=by
 obtain ⟨bV,bW,cW,cN⟩:=h.lens
 obtain ⟨aO,aE,ek⟩:=h.net.lens
 have eF:bn<=1048576:=by rw [←bV];exact hl.blocks
 have dq:cn<=1048576:=by rw [←bW];exact hl.conns
 obtain ⟨a5,d0,d5,cD,dm,d8,H1,bT⟩:=hd8 bV cW bW cN aO aE h hl
 clear h hl bV bW cW cN aO aE ek
 have z:=Hd (aB (aB (Below.refl w.heap.size w) (.cells (dv d) 36)) (.cells #[.int .i64 x.net.inputs,.slice SA sn sc,.slice LA ln lc,.slice OA on oc,.slice BA bn bc,.slice CA cn cc,.slice PA pn pc,.slice RA rn rc] 46))
 have h1:=aW (.cells #[.int .i64 x.net.inputs,.slice SA sn sc,.slice LA ln lc,.slice OA on oc,.slice BA bn bc,.slice CA cn cc,.slice PA pn pc,.slice RA rn rc] 46) (aI w (.cells (dv d) 36))
 have h2:=aI (w.alloc (.cells (dv d) 36)) (.cells #[.int .i64 x.net.inputs,.slice SA sn sc,.slice LA ln lc,.slice OA on oc,.slice BA bn bc,.slice CA cn cc,.slice PA pn pc,.slice RA rn rc] 46)
 simp only [World.size_alloc] at h2
 obtain ⟨ak,ad⟩:=hd2 h1 h2
 clear h1 h2
 go_enter Tryz.func20,Tryz.ntmps20
 go_upto_region 1 with fail
 obtain ⟨gX,b5⟩:∃g,w.heap.size=g:=⟨_,rfl⟩
 obtain ⟨gY,bS⟩:∃g,gX+1=g:=⟨_,rfl⟩
 generalize (w.alloc (.cells (dv d) 36)).alloc (.cells #[.int .i64 x.net.inputs,.slice SA sn sc,.slice LA ln lc,.slice OA on oc,.slice BA bn bc,.slice CA cn cc,.slice PA pn pc,.slice RA rn rc] 46)=W9 at *
 rw [b5] at ak ad
 rw [bS] at ad
 (try rw [b5])
 (try rw [bS])
 clear b5 bS
 obtain ⟨x0,x1,x2,x3,lx⟩:=cO (aD (Below.refl W9.heap.size W9) ak.out)
 obtain ⟨y0,y1,y2,y3,y4,y5,y6,y7,ly⟩:=mK (aD (Below.refl W9.heap.size W9) ad.out)
 go_wp2_with fail
 refine (xf d x SA LA OA BA CA PA RA sn sc ln lc on oc bn bc cn cc pn pc rn rc _ (H1.out.below z.out).net (H1.out.below z.out).bl (H1.out.below z.out).cn (H1.out.below z.out).pl (H1.out.below z.out).ro eF dq eA b9 bT.out.les bT.out.sinks bT.out.nodes).mono ?_
 by_cases hf:jB d x
 ·rw [ae hf]
  rintro _ w1 ⟨rfl,b1⟩
  obtain ⟨B1,HF⟩:=hd2 b1 hf
  have ft:bn<=64:=by rw [←a5.out];exact hf.pack.len
  have gi:ln<=400:=by rw [←d8.out];exact hf.pack.net.nlut
  have fV:rn<=1048576:=by rw [←cD.out,hf.routes.len,d5.out];exact dq
  have fI:=fZ hf.place.dev
  have fz:sn<=12:=by rw [←dm.out];exact hf.pack.net.nseq
  obtain ⟨hN,fY,gh⟩:=lD hf.place.dev
  have ey:=Hd (fun w=>wM d w hf.place.dev)
  have dh:=(oC hf.place.dev).2.2.1
  obtain ⟨aG,c9,dH,cP,cV⟩:=info_parts A8
  have a4:=Hd (show Tryz.prog.info? 110=some aG/\aG.zero=some (.agg #[.slice none 0 0,.slice none 0 0,.int .i64 0,.int .i64 0])/\aG.size=4/\aG.bytes=64 from ⟨c9,dH,cP,cV⟩)
  have eL:Hid ((d.W * d.H).toNat=oM d):=rfl
  generalize oM d=N at *
  have a3:IntKind.i64.wrap (N:Int)=(N:Int):=IntWalk.i64_in _ (by omega)
  clear b1 hf c9 dH cP cV x0 x1 x2 x3 lx y0 y1 y2 y3 y4 y5 y6 y7 ly
  have J:=Hd ((aJ.nil B1.out).pushNil 110 4)
  go_wp2_with fail
  go_loopw [6,7] (fun v i wr=>∃(k:Nat) (A:Option Addr) (c:Nat),k<=N/\i = .int .i64 (k:Int)/\v = .slice A k c/\aJ W9 wr [.cel (dW (List.replicate k (emT d))) (.slice A k c)]) (fun _ i _=>N - (intOf i).toNat)
  ·exact ⟨0,none,0,by omega,rfl,rfl,J.out⟩
  obtain ⟨k,A,c,hk,rfl,rfl,hs⟩:=hrel
  have Z:=Hd hs
  clear hs
  obtain ⟨x0,x1,x2,x3,lx⟩:=cO (aD Z.out.bel ak.out)
  by_cases ds:k<N
  ·have ci:=dT (by omega:k<N)
   go_wp2_with fail
   refine (ey.out _).mono ?_
   rintro _ w5 h5
   obtain ⟨v0,v1,rfl,s5⟩:=wu h5 dh
   have er:=Hd (Z.out.join s5)
   clear h5 s5 x0 x1 x2 x3 lx
   go_wp2_with (at_builtin;refine gQ rfl _ _ 58 110 rfl aG _ 4 64 Tryz.underlying58 a4.out.1 a4.out.2.1 a4.out.2.2.1 a4.out.2.2.2 rfl (by decide) (by decide) _ (er.out.alloc _) 0 1 (by decide) k c _ A ((List.replicate k (emT d)).flatMap bC.cells) _ #[v0,v1,.int .i64 0,.int .i64 0] _ rfl rfl rfl rfl (aI _ _) rfl (by omega) ?_;intro g9 fD w9 S9 gf)
   go_roundw
   ·exact ⟨k+1,_,_,by omega,by go_num,rfl,by rw [zO];exact S9.sub (List.Sublist.cons_cons _ (List.nil_sublist _))⟩
   simp [intOf];omega
  have a9:k=N:=by omega
  subst a9
  have ci:decide ((k:Int)<(k:Int))=false:=by simp
  obtain ⟨N,rfl⟩:∃y,y=k:=⟨k,rfl⟩
  obtain ⟨gT,hA,_⟩:=oJ Z.out 0 rfl (t:=0) (by rw [List.length_replicate];omega) 2 (by decide)
  have dZ:=Hd hA
  clear hA hk
  obtain rfl:=dZ.out
  obtain ⟨y0,y1,y2,y3,y4,y5,y6,y7,ly⟩:=mK (aD Z.out.bel ad.out)
  go_wp2_with fail
  clear x0 x1 x2 x3 lx y0 y1 y2 y3 y4 y5 y6 y7 ly
  have I:Hid (aJ W9 wr [.cel (dW (jI d x 0)) (.slice (some ⟨gT,0,none⟩) N c)]):=by show aJ _ _ _;unfold jI;rw [eL.out];exact Z.out
  clear Z
  go_loopw [40] (fun i wr=>∃q:Nat,q<=rn/\i = .int .i64 (q:Int)/\aJ W9 wr [.cel (dW (jI d x q)) (.slice (some ⟨gT,0,none⟩) N c)]) (fun i _=>rn - (intOf i).toNat)
  ·exact ⟨0,by omega,rfl,I.out⟩
  obtain ⟨q,hq,rfl,hs⟩:=hrel
  have J:=Hd hs
  clear hs
  by_cases ef:q<rn
  ·have ea:=dT (by omega:q<rn)
   have cB:q<x.routes.length:=by rw [cD.out];exact ef
   obtain ⟨gq,oq,NA,nm,nc,FA,fm,fc,de,cA,c0,c1,rN,rF⟩:=H1.out.ro.rou (k:=q) cB
   have aC:=(HF.out.routes.fit q (by rw [←HF.out.routes.len];exact cB)).2
   have G:=Hd (aA z.out J.out.bel)
   rw [←G.out.cell (p:=⟨gq,oq+q * 2,none⟩) cA] at c0
   rw [←G.out.cell (p:=⟨gq,oq+q * 2+1,none⟩) cA] at c1
   have dR:=aK G.out cA
   have bY:=(qd HF.out.routes HF.out.place.dev q (by omega)).1
   obtain ⟨r,hr⟩:∃r,wW x q=r:=⟨_,rfl⟩
   have u:jI d x (q+1)=kC d r (jI d x q) r.nodes.length:=by rw [←hr];rfl
   rw [show x.routes[q]?.getD Rou.zero=r from hr] at rN rF aC
   obtain ⟨db,aL⟩:=hd2 aC rN.ints
   have fC:nm<=1000:=by rw [←aL.out.1];have:=aC.len.2;omega
   have di:=Hd rF.ints
   have dA:=Hd (⟨fun m h0 hm=>rO aC h0 hm⟩:Es d r)
   obtain ⟨TS,dx⟩:∃y,jI d x q=y:=⟨_,rfl⟩
   rw [dx] at bY u J
   obtain ⟨d2,eW,eI⟩:=hd3 bY u de
   clear rN rF aC hr dx bY u de cB
   obtain rfl:=eI.out
   obtain ⟨q0,q1⟩:=ib (by omega:q<rn)
   have ap:=J.out.pushBlk #[.slice NA nm nc,.slice FA fm fc] 114
   go_upto_region 11 with fail
   obtain ⟨gr,bX⟩:∃g,wr.heap.size=g:=⟨_,rfl⟩
   rw [bX] at ap
   (try rw [bX])
   have I:=Hd ap
   clear bX ap c0 c1 dR G J
   generalize wr.alloc (.cells #[.slice NA nm nc,.slice FA fm fc] 114)=W1 at *
   obtain ⟨r0,lr⟩:=wO ((I.out.blk 1 rfl).1)
   go_wp2_with fail
   clear r0 lr
   go_loopw [47] (fun i wr=>∃j:Nat,j<=nm/\i = .int .i64 (j:Int)/\aJ W9 wr [.cel (dW (kC d r TS j)) (.slice (some ⟨gT,0,none⟩) N c),.blk gr #[.slice NA nm nc,.slice FA fm fc] 114]) (fun i _=>nm - (intOf i).toNat)
   ·exact ⟨0,by omega,rfl,I.out⟩
   obtain ⟨j,hj,rfl,hs⟩:=hrel
   have Z:=Hd hs
   clear hs
   by_cases dr:j<nm
   ·have dY:=dT (by omega:j<nm)
    have df:j<r.nodes.length:=by rw [aL.out.1];exact dr
    obtain ⟨bN,oN,cL,cG,b4⟩:=aL.out.2 (by omega)
    have cb:=((aA z.out Z.out.bel).cell (p:=⟨bN,oN+j,none⟩) cG).trans (b4 j dr)
    have eX:=aK (aA z.out Z.out.bel) cG
    obtain ⟨ej,dS⟩:=hd2 b4 cL
    clear b4 cL
    obtain rfl:=dS.out
    obtain ⟨j0,j1⟩:=ib (by omega:j<nm)
    by_cases hz:j=0
    ·subst hz
     have R:Hid (kC d r TS (0+1)=kC d r TS 0):=if_pos rfl
     rw [Nat.add_zero] at cb
     generalize r.nodes[0]?.getD 0=n at *
     go_wp2_with fail
     go_roundw
     ·exact ⟨0+1,by omega,by go_num,by rw [R.out];exact Z.out⟩
     simp [intOf];omega
    have dz:((j:Int)==0)=false:=by simp;omega
    obtain ⟨au,bH⟩:=dA.out.nod j (by omega) df
    obtain ⟨a0,a1,a2,a3⟩:=um au
    have bb:fP d (r.nodes[j]?.getD 0)=true:=by unfold bQ at au;simp only [Bool.and_eq_true] at au;exact au.1
    obtain ⟨_,_,_,_,_,b0,b1⟩:=il bb
    have b9:=eP HF.out.place.dev
    have aR:=fun w=>jO d (r.nodes[j]?.getD 0) w bb
    have U:=(db.out.step j (by omega) df).1
    have aY:=(sI HF.out.place.dev dA.out d2.out j (by omega)).1
    have u:kC d r TS (j+1)=Ci d r j (kC d r TS j):=if_neg (by omega)
    unfold Ci at u
    have Q:=aY.mux ((r.nodes[j]?.getD 0) / aV d).toNat (by rw [aY.len];omega)
    have ca:=aY.len
    have cY:r.from_.length=fm:=di.out.1
    have cX:fm=nm:=by rw [←cY,db.out.same,aL.out.1]
    obtain ⟨bF,oF,cR,ep,dI⟩:=di.out.2 (by omega)
    have cf:=dI j (by omega)
    obtain ⟨F,hF⟩:∃F:Nat,r.from_[j]?.getD 0=(F:Int):=⟨_,(Int.toNat_of_nonneg U.1).symm⟩
    rw [hF] at cf U u
    rw [Int.toNat_natCast] at u
    have cs:=ej.out F (by omega)
    obtain ⟨n,hn⟩:∃n,r.nodes[j]?.getD 0=n:=⟨_,rfl⟩
    obtain ⟨S,hS⟩:∃n,r.nodes[F]?.getD 0=n:=⟨_,rfl⟩
    rw [hn] at cb aR u a0 a1 a2 a3 b0 b1 Q au bH bb
    rw [hS] at u cs
    obtain ⟨TJ,c4⟩:∃y,kC d r TS j=y:=⟨_,rfl⟩
    rw [c4] at u Q ca Z
    obtain ⟨T,B⟩:∃T:Nat,n / aV d=(T:Int):=⟨_,(Int.toNat_of_nonneg a0).symm⟩
    obtain ⟨K,hK⟩:∃K:Nat,n % aV d=(K:Int):=⟨_,(Int.toNat_of_nonneg b0).symm⟩
    obtain ⟨KI,cu⟩:∃K:Nat,Ab d n=(K:Int):=⟨_,(Int.toNat_of_nonneg a2).symm⟩
    have ay:(KI:Int)=if 7<=(K:Int) then (K:Int) - 2 else (K:Int):=by rw [←cu,←hK];rfl
    rw [B] at aR u Q a1
    rw [hK] at aR b1
    rw [cu] at u a3
    rw [Int.toNat_natCast] at u Q
    rw [Int.toNat_natCast] at u
    obtain ⟨R,eN⟩:=hd2 u aR
    have V:Hid (T<TJ.length):=by show _<_;rw [ca];omega
    have c7:Hid (KI<(tAt TJ T).mux.length):=by show _<_;rw [Q];omega
    have ed:Hid (∀v,Below w.heap.size w v→v.cell? ⟨bF,oF+j,none⟩=some (.int .i64 (F:Int))):=fun v hv=>(hv.cell (p:=⟨bF,oF+j,none⟩) ep).trans cf
    have eG:Hid (∀v,Below w.heap.size w v→v.cell? ⟨bN,oN+F,none⟩=some (.int .i64 S)):=fun v hv=>(hv.cell (p:=⟨bN,oN+F,none⟩) cG).trans cs
    have eE:=Hd cR
    have gu:T<N:=by omega
    clear aR u Q ca dI cf cs hn hS c4 B cu au bH bb a0 a1 a2 a3 b0 aY hF cY hz cR hK
    obtain rfl:=eE.out
    obtain ⟨t0,t1⟩:=ib (by omega:T<N)
    obtain ⟨f0,f1⟩:=ib (by omega:F<nm)
    have f2:F<nm:=by omega
    have j2:(j:Int)<(fm:Int):=by omega
    have j3:j<fm:=by omega
    have k9:(K:Int)<100:=by omega
    clear b9 b1 cX
    obtain ⟨x0,x1,x2,x3,lx⟩:=cO (aD Z.out.bel ak.out)
    go_wp2_with fail
    refine (eN.out _).mono ?_
    rintro _ w6 ⟨rfl,b6⟩
    have dD:=Hd (Z.out.below b6)
    clear b6 cb eX x0 x1 x2 x3 lx
    obtain ⟨wr,rfl⟩:∃y,y=w6:=⟨w6,rfl⟩
    have Z:=dD
    clear dD
    go_upto_if 61 with fail
    go_cut [13] (fun k w'=>k = .int .i64 (KI:Int)/\wr=w')
    case first =>
     by_cases h7:(7:Int)<=(K:Int)
     ·have d7:decide ((K:Int)≥7)=true:=decide_eq_true h7
      go_upto_region 18 with fail
      go_meet
      exact ⟨by rw [ay,if_pos (by omega)],rfl⟩
     have d7:decide ((K:Int)≥7)=false:=decide_eq_false h7
     go_upto_region 18 with fail
     go_meet
     exact ⟨by rw [ay,if_neg (by omega)],rfl⟩
    obtain ⟨rfl,rfl⟩:=hcut
    clear ay
    obtain ⟨wT,ao⟩:∃y,wr.drew=y:=⟨_,rfl⟩
    have HT:Hid (aJ W9 wT [.cel (dW (TJ)) (.slice (some ⟨gT,0,none⟩) N c),.blk gr #[.slice (some ⟨bN,oN,none⟩) nm nc,.slice (some ⟨bF,oF,none⟩) fm fc] 114]):=Hd (by rw [←ao];exact Z.out.drew)
    obtain ⟨bj,sb,ma,mb,hA,ar,cT,ha,al⟩:=Bn HT.out 0 rfl (t:=T) V.out (k:=KI) c7.out
    injection hA with hA
    injection hA with hA
    subst hA
    obtain ⟨aM,cr⟩:=hd2 al ha
    clear al ha
    have eJ:KI<ma:=by rw [cr.out];exact c7.out
    have ay:(KI:Int)<(ma:Int):=by omega
    have fB:(0:Int)<=(KI:Int):=by omega
    have Y:Hid (∀(v:World),Below wT.heap.size wT v→aJ W9 v [.cel (dW (TJ)) (.slice (some ⟨gT,0,none⟩) N c),.blk gr #[.slice (some ⟨bN,oN,none⟩) nm nc,.slice (some ⟨bF,oF,none⟩) fm fc] 114]→(v.cell? ⟨gT,T * 4,none⟩=some (.slice (some ⟨sb,0,none⟩) ma mb)/\KD v gX d (v.cell? ⟨gr,0,none⟩=some (.slice (some ⟨bN,oN,none⟩) nm nc)/\v.cell? ⟨gr,1,none⟩=some (.slice (some ⟨bF,oF,none⟩) fm fc)/\v.cell? ⟨bF,oF+j,none⟩=some (.int .i64 (F:Int))/\v.cell? ⟨bN,oN+F,none⟩=some (.int .i64 S)))):=Hd fun v hv h=>⟨(hv.cell (p:=⟨gT,T * 4,none⟩) ar).trans cT,aF (k:=0) (aD h.bel ak.out) rfl,aF (k:=1) (aD h.bel ak.out) rfl,aF (k:=2) (aD h.bel ak.out) rfl,aF (k:=3) (aD h.bel ak.out) rfl,aF (k:=0) (h.blk 1 rfl).1 rfl,aF (k:=1) (h.blk 1 rfl).1 rfl,ed.out _ (aA z.out h.bel),eG.out _ (aA z.out h.bel)⟩
    have ce:=HT.out.bel
    go_upto_region 18 with fail
    refine wp_region_noPanic ?_
    have aP:=Y.out _ (Below.refl _ _) HT.out
    rw [←ao] at aP
    refine iR 19 (fun w'=>w'.cell? ⟨gT,T * 4,none⟩=some (.slice (some ⟨sb,0,none⟩) ma mb)/\KD w' gX d (w'.cell? ⟨gr,0,none⟩=some (.slice (some ⟨bN,oN,none⟩) nm nc)/\w'.cell? ⟨gr,1,none⟩=some (.slice (some ⟨bF,oF,none⟩) fm fc)/\w'.cell? ⟨bF,oF+j,none⟩=some (.int .i64 (F:Int))/\w'.cell? ⟨bN,oN+F,none⟩=some (.int .i64 S))) (aP) (fun B D=>?_)
    rw [ao] at D ⊢
    refine onT B 0 opA D ?_
    refine onT B 1 (opB opA) D ?_
    refine onT B 2 (opB (opB opA)) D ?_
    refine onT B 3 (opB (opB (opB opA))) D ?_
    refine onT B 4 (opC opA) D ?_
    refine onT B 5 (opC (opB opA)) D ?_
    refine onT B 6 (opC (opB (opB opA))) D ?_
    refine onT B 7 (opC (opB (opB (opB opA)))) D ?_
    refine onT B 8 (opC (opC opA)) D ?_
    refine onT B 9 (opC (opC (opB opA))) D ?_
    refine onT B 10 (opC (opC (opB (opB opA)))) D ?_
    refine onT B 11 (opC (opC (opB (opB (opB opA))))) D ?_
    refine onT B 12 (opC (opC (opC opA))) D ?_
    refine onT B 13 (opC (opC (opC (opB opA)))) D ?_
    refine onT B 14 (opC (opC (opC (opB (opB opA))))) D ?_
    refine onT B 15 (opC (opC (opC (opB (opB (opB opA)))))) D ?_
    refine onT B 16 (opD opA) D ?_
    refine uF B 17 (opD (opB opA)) (fun K hK=>?_)
    go_simp
    go_at_call 73
    with_reducible refine (vw d n S _).mono ?_
    rintro _ w7 ⟨rfl,b7⟩
    have cE:=Hd (HT.out.below b7)
    have B7:=Hd b7
    clear b7
    refine hK.out _ _ (Y.out _ B7.out cE.out) (fun D=>?_)
    clear hK K
    try simp only [Act.put,List.setIfInBounds_toArray,List.set_cons_zero,List.set_cons_succ]
    refine onT B 18 (opD (opB (opB opA))) D ?_
    obtain ⟨q8,⟨x8,c8⟩,f8,hu⟩:=aM.out _ B7.out
    refine tF B 19 (opD (opB (opB (opB opA)))) ?_
    go_wp2_with fail
    refine NoPanic.normal ?_
    have af:=Hd (hu (rP (fe d n) S))
    go_wp2_with fail
    go_roundw
    ·exact ⟨j+1,by omega,by go_num,by rw [R.out];exact af.out⟩
    simp [intOf];omega
   have cM:j=nm:=by omega
   have dY:=dF (by omega:nm<=j)
   have c5:Hid (jI d x (q+1)=kC d r TS j):=by show _=_;rw [eW.out,aL.out.1,cM]
   clear cM
   go_wp2_with fail
   go_roundw
   ·exact ⟨q+1,by omega,by go_num,by rw [c5.out];exact Z.out.sub (List.Sublist.cons_cons _ (List.nil_sublist _))⟩
   simp [intOf];omega
  have dp:q=rn:=by omega
  have ea:=dF (by omega:rn<=q)
  have bh:Hid (aJ W9 wr [.cel (dW (fH d x 0)) (.slice (some ⟨gT,0,none⟩) N c)]):=by show aJ _ _ _;unfold fH;rw [cD.out,←dp];exact J.out
  clear dp J
  obtain ⟨wb,rfl⟩:∃y,y=wr:=⟨wr,rfl⟩
  obtain ⟨y0,y1,y2,y3,y4,y5,y6,y7,ly⟩:=mK (aD bh.out.bel ad.out)
  go_wp2_with fail
  clear y0 y1 y2 y3 y4 y5 y6 y7 ly
  go_loopw [88] (fun i wr=>∃k:Nat,k<=bn/\i = .int .i64 (k:Int)/\aJ W9 wr [.cel (dW (fH d x k)) (.slice (some ⟨gT,0,none⟩) N c)]) (fun i _=>bn - (intOf i).toNat)
  ·exact ⟨0,by omega,rfl,bh.out⟩
  obtain ⟨k,hk,rfl,hs⟩:=hrel
  have J:=Hd hs
  clear hs
  by_cases ds:k<bn
  ·have ci:=dT (by omega:k<bn)
   have Q:k<x.blocks.length:=by rw [a5.out];exact ds
   have G:=Hd (aA z.out J.out.bel)
   obtain ⟨gb,ob,EA,en,ec,cS,bq,c0,c1,c2,r2⟩:=H1.out.bl.blk (k:=k) Q
   have eK:=aK G.out bq
   rw [←G.out.cell (p:=⟨gb,ob+k * 3,none⟩) bq] at c0
   rw [←G.out.cell (p:=⟨gb,ob+k * 3+1,none⟩) bq] at c1
   rw [←G.out.cell (p:=⟨gb,ob+k * 3+2,none⟩) bq] at c2
   have av:dM x.net (oH x k):=by unfold oH;rw [List.getElem?_eq_getElem Q];exact HF.out.pack.fit _ (List.getElem_mem Q)
   obtain ⟨cy,aq⟩:=qf HF.out k (by omega)
   have aq:=aq k (Nat.le_refl _) Q
   obtain ⟨p0,p1,p2⟩:=pq HF.out.place Q
   have u:fH d x (k+1)=yz x k (fH d x k):=rfl
   unfold yz at u
   obtain ⟨T,B⟩:∃T,sG x k=T:=⟨_,rfl⟩
   have dk:x.place[k]?.getD 0=(T:Int):=by rw [←B];exact (Int.toNat_of_nonneg p0).symm
   rw [B] at u aq p2
   obtain ⟨TB,dl⟩:∃y,fH d x k=y:=⟨_,rfl⟩
   rw [dl] at cy aq u J
   have bI:=cy.len
   have eC:pn=bn:=by rw [←d0.out,←a5.out,HF.out.place.same,List.length_map]
   obtain ⟨bp,op,dB,cU,dc⟩:=H1.out.pl.ints.2 (by omega)
   have cp:=dc k (by omega)
   rw [dk] at cp
   have dX:Hid (∀v,Below w.heap.size w v→v.cell? ⟨bp,op+k,none⟩=some (.int .i64 (T:Int))):=fun v hv=>(hv.cell (p:=⟨bp,op+k,none⟩) cU).trans cp
   obtain ⟨bx,b3⟩:∃b,oH x k=b:=⟨_,rfl⟩
   rw [b3] at av u
   rw [show x.blocks[k]?.getD Blk.zero=bx from b3] at c0 c1 r2
   have c6:=nU av
   have aH:=lT av
   obtain ⟨kd,it,es⟩:=bx
   simp only at c0 c1 aH u
   have HE:=Hd (show RdC w w.heap.size (cZ es) (.slice EA en ec) from r2)
   have ax:Hid (es.length=en):=HE.out.esN
   have dE:en<=2:=by rw [←ax.out];exact aH
   have dj:=Hd (show ∀e∈es,dG x.net e from c6)
   obtain ⟨R,eS⟩:=hd2 u aq
   have V:Hid (T<TB.length):=by show _<_;rw [bI];exact p2
   have f6:T<N:=by omega
   obtain ⟨em,eH⟩:=hd2 cS dB
   clear b3 c6 aH r2 cS u Q aq cy bI dl B dk p0 p1 p2 dc cp dB
   obtain rfl:=em.out
   obtain rfl:=eH.out
   obtain ⟨i0,i1⟩:=ib (by omega:k<bn)
   have i2:(k:Int)<(pn:Int):=by omega
   have i3:k<pn:=by omega
   obtain ⟨t0,t1⟩:=ib (by omega:T<N)
   clear eC
   have ap:=J.out.pushBlk #[.int .i64 kd,.int .i64 it,.slice EA en ec] 89
   go_upto_region 24 with fail
   obtain ⟨gK,ch⟩:∃g,wr.heap.size=g:=⟨_,rfl⟩
   rw [ch] at ap
   (try rw [ch])
   have I:=Hd ap
   clear ch ap c0 c1 c2 eK G J
   generalize wr.alloc (.cells #[.int .i64 kd,.int .i64 it,.slice EA en ec] 89)=W1 at *
   have cp:=dX.out _ (aA z.out I.out.bel)
   have ev:=aK (aA z.out I.out.bel) cU
   obtain ⟨y0,y1,y2,y3,y4,y5,y6,y7,ly⟩:=mK (aD I.out.bel ad.out)
   obtain ⟨k0,k1,k2,lk⟩:=jX ((I.out.blk 1 rfl).1)
   by_cases bd:kd=0
   ·subst bd
    obtain ⟨bj,hA,ar,⟨xT,cT⟩,fT,U⟩:=oJ I.out 0 rfl (t:=T) V.out 2 (by decide)
    injection hA with hA
    injection hA with hA
    subst hA
    have af:=Hd (U (1))
    have am:Hid (fH d x (k+1)=setPad TB T (1)):=by show _=_;rw [R.out];rfl
    clear U
    go_wp2_with fail
    go_roundw
    ·exact ⟨k+1,by omega,by go_num,by rw [am.out];exact af.out.sub (List.Sublist.cons_cons _ (List.nil_sublist _))⟩
    simp [intOf];omega
   have gv:(kd==0)=false:=by simp [bd]
   rw [if_neg bd] at R
   by_cases bu:kd=1
   ·subst bu
    obtain ⟨bj,hA,ar,⟨xT,cT⟩,fT,U⟩:=oJ I.out 0 rfl (t:=T) V.out 2 (by decide)
    injection hA with hA
    injection hA with hA
    subst hA
    have af:=Hd (U (2))
    have am:Hid (fH d x (k+1)=setPad TB T (2)):=by show _=_;rw [R.out];rfl
    clear U
    go_wp2_with fail
    go_roundw
    ·exact ⟨k+1,by omega,by go_num,by rw [am.out];exact af.out.sub (List.Sublist.cons_cons _ (List.nil_sublist _))⟩
    simp [intOf];omega
   have f9:(kd==1)=false:=by simp [bu]
   rw [if_neg bu] at R
   by_cases bf:kd=2
   ·subst bf
    have eV:0<=it/\it<(x.net.seqs.length:Int):=jW.1 av.1
    obtain ⟨X,hX⟩:∃X:Nat,it=(X:Int):=⟨it.toNat,by omega⟩
    subst hX
    have dg:X<x.net.seqs.length:=by omega
    have gx:X<sn:=by rw [←dm.out];exact dg
    obtain ⟨sb,so,IA,im,ic,dt,dd,_,d1,_,_⟩:=H1.out.net.sq.sq' (k:=X) dg
    rw [←(aA z.out I.out.bel).cell (p:=⟨sb,so+X * 3+1,none⟩) dd] at d1
    have gj:=aK (aA z.out I.out.bel) dd
    have ew:=Hd dt
    clear dt eV
    obtain rfl:=ew.out
    obtain ⟨gl,fS⟩:=ib (by omega:X<sn)
    rw [Int.toNat_natCast] at R
    generalize (x.net.seqs[X]?.getD Sq.zero).init=ii at *
    obtain ⟨bj,hA,ar,⟨xT,cT⟩,fT,U⟩:=oJ I.out 0 rfl (t:=T) V.out 3 (by decide)
    injection hA with hA
    injection hA with hA
    subst hA
    have af:=Hd (U (ii))
    have am:Hid (fH d x (k+1)=setRam TB T (ii)):=by show _=_;rw [R.out];rfl
    clear U
    go_wp2_with fail
    go_roundw
    ·exact ⟨k+1,by omega,by go_num,by rw [am.out];exact af.out.sub (List.Sublist.cons_cons _ (List.nil_sublist _))⟩
    simp [intOf];omega
   have f4:(kd==2)=false:=by simp [bf]
   rw [if_neg bf] at R
   have eO:kd=3:=by have:=iL av.1;omega
   subst eO
   clear bd bu bf av
   have dy:Hid (aJ W9 W1 [.cel (dW (setLes TB T (mE x.net es 0))) (.slice (some ⟨gT,0,none⟩) N c),.blk gK #[.int .i64 3,.int .i64 it,.slice EA en ec] 89]):=by show aJ _ _ _;rw [wZ,zP V.out eS.out];exact I.out
   go_wp2_with fail
   clear cp ev k0 k1 k2 lk y0 y1 y2 y3 y4 y5 y6 y7 ly
   go_loopw [105] (fun i wr=>∃e:Nat,e<=en/\i = .int .i64 (e:Int)/\aJ W9 wr [.cel (dW (setLes TB T (mE x.net es e))) (.slice (some ⟨gT,0,none⟩) N c),.blk gK #[.int .i64 3,.int .i64 it,.slice EA en ec] 89]) (fun i _=>en - (intOf i).toNat)
   ·exact ⟨0,by omega,rfl,dy.out⟩
   obtain ⟨e,he,rfl,hs⟩:=hrel
   have Z:=Hd hs
   clear hs
   by_cases eg:e<en
   ·have d3:=dT (by omega:e<en)
    have aQ:e<es.length:=by rw [ax.out];exact eg
    obtain ⟨be,oe,dw,cj,aZ,bs⟩:=HE.out.es (k:=e) aQ
    have ck:dG x.net (es[e]?.getD LeT.zero):=by rw [List.getElem?_eq_getElem aQ];exact dj.out _ (List.getElem_mem aQ)
    have cv:=yx x.net (by rw [ax.out];exact dE) aQ
    have aE:=ul x.net (by rw [ax.out];exact dE:es.length<=2) (by omega:e<=es.length)
    have a7:=Hd (aA z.out Z.out.bel)
    rw [←a7.out.cell (p:=⟨be,oe+e * 2,none⟩) cj] at aZ
    rw [←a7.out.cell (p:=⟨be,oe+e * 2+1,none⟩) cj] at bs
    have d4:=aK a7.out cj
    have a6:=DL V.out (mE x.net es e)
    have cC:=xW V.out (mE x.net es e) (mE x.net es (e+1))
    obtain ⟨TL,cw⟩:∃y,setLes TB T (mE x.net es e)=y:=⟨_,rfl⟩
    have aO:TL.length=TB.length:=by rw [←cw];exact Am _ _ _
    rw [cw] at a6 cC Z
    obtain ⟨el,bO⟩:∃y,es[e]?.getD LeT.zero=y:=⟨_,rfl⟩
    rw [bO] at aZ bs ck cv
    obtain ⟨a,b⟩:=el
    have ex:Hid (setLes TB T (mE x.net es (e+1))=setLes TL T ((tAt TL T).les.set e (leF x.net es ⟨a,b⟩))):=by show _=_;rw [a6,cv,cC]
    have bP:Hid (e<(tAt TL T).les.length):=by show _<_;rw [a6,aE];omega
    have du:=V
    have V:Hid (T<TL.length):=by show _<_;rw [aO];exact du.out
    obtain ⟨eB,et⟩:=hd2 ck dw
    clear cw a6 cC aO bO ck cv aE aQ dw
    obtain rfl:=et.out
    simp only at aZ bs
    obtain ⟨e0,e1⟩:=ib (by omega:e<en)
    have cx:=Z.out.pushBlk #[.int .i64 a,.int .i64 b] 94
    go_upto_region 29 with fail
    obtain ⟨gE,b2⟩:∃g,wr.heap.size=g:=⟨_,rfl⟩
    rw [b2] at cx
    (try rw [b2])
    have bh:=Hd cx
    clear b2 cx aZ bs d4 a7 Z
    generalize wr.alloc (.cells #[.int .i64 a,.int .i64 b] 94)=W2 at *
    obtain ⟨wT,ao⟩:∃y,W2.drew=y:=⟨_,rfl⟩
    have HT:Hid (aJ W9 wT [.cel (dW (TL)) (.slice (some ⟨gT,0,none⟩) N c),.blk gK #[.int .i64 3,.int .i64 it,.slice (some ⟨be,oe,none⟩) en ec] 89,.blk gE #[.int .i64 a,.int .i64 b] 94]):=Hd (by rw [←ao];exact bh.out.drew)
    obtain ⟨bj,lb,ma,mb,hA,ar,cT,ha,al⟩:=Fa HT.out 0 rfl (t:=T) V.out (e:=e) bP.out
    injection hA with hA
    injection hA with hA
    subst hA
    obtain ⟨aM,cr⟩:=hd2 al ha
    clear al ha
    have eJ:e<ma:=by rw [cr.out];exact bP.out
    have ay:(e:Int)<(ma:Int):=by omega
    have Y:Hid (∀(v:World),Below wT.heap.size wT v→aJ W9 v [.cel (dW (TL)) (.slice (some ⟨gT,0,none⟩) N c),.blk gK #[.int .i64 3,.int .i64 it,.slice (some ⟨be,oe,none⟩) en ec] 89,.blk gE #[.int .i64 a,.int .i64 b] 94]→(v.cell? ⟨gT,T * 4+1,none⟩=some (.slice (some ⟨lb,0,none⟩) ma mb)/\K4 v gY (.int .i64 x.net.inputs) (.slice SA sn sc) (.slice LA ln lc) (.slice OA on oc) (K3 v gK (.int .i64 3) (.int .i64 it) (.slice (some ⟨be,oe,none⟩) en ec) (v.cell? ⟨gE,0,none⟩=some (.int .i64 a)/\v.cell? ⟨gE,1,none⟩=some (.int .i64 b))))):=Hd fun v hv h=>⟨(hv.cell (p:=⟨gT,T * 4+1,none⟩) ar).trans cT,aF (k:=0) (aD h.bel ad.out) rfl,aF (k:=1) (aD h.bel ad.out) rfl,aF (k:=2) (aD h.bel ad.out) rfl,aF (k:=3) (aD h.bel ad.out) rfl,aF (k:=0) (h.blk 1 rfl).1 rfl,aF (k:=1) (h.blk 1 rfl).1 rfl,aF (k:=2) (h.blk 1 rfl).1 rfl,aF (k:=0) (h.blk 2 rfl).1 rfl,aF (k:=1) (h.blk 2 rfl).1 rfl⟩
    have ce:=HT.out.bel
    refine wp_region_noPanic ?_
    have aP:=Y.out _ (Below.refl _ _) HT.out
    rw [←ao] at aP
    refine iR 11 (fun w'=>w'.cell? ⟨gT,T * 4+1,none⟩=some (.slice (some ⟨lb,0,none⟩) ma mb)/\K4 w' gY (.int .i64 x.net.inputs) (.slice SA sn sc) (.slice LA ln lc) (.slice OA on oc) (K3 w' gK (.int .i64 3) (.int .i64 it) (.slice (some ⟨be,oe,none⟩) en ec) (w'.cell? ⟨gE,0,none⟩=some (.int .i64 a)/\w'.cell? ⟨gE,1,none⟩=some (.int .i64 b)))) (aP) (fun B D=>?_)
    rw [ao] at D ⊢
    refine onT B 0 opA D ?_
    refine onT B 1 (opB opA) D ?_
    refine onT B 2 (opB (opB opA)) D ?_
    refine onT B 3 (opB (opB (opB opA))) D ?_
    refine onT B 4 (opC opA) D ?_
    refine onT B 5 (opC (opB opA)) D ?_
    refine onT B 6 (opC (opB (opB opA))) D ?_
    refine onT B 7 (opC (opB (opB (opB opA)))) D ?_
    refine onT B 8 (opC (opC opA)) D ?_
    refine uF B 9 (opC (opC (opB opA))) (fun K hK=>?_)
    go_simp
    go_at_call 74
    with_reducible refine (xz x.net SA LA OA sn sc ln lc on oc it es (some ⟨be,oe,none⟩) en ec a b _ (H1.out.net.below (aA z.out ce)) HF.out.pack.net (HE.out.below (aA z.out ce)) dj.out (by omega) eB.out).mono ?_
    rintro _ w7 ⟨Sx,mx,qx,rfl,s7⟩
    have cE:=Hd (HT.out.below s7.bel)
    obtain ⟨B7,S7⟩:=hd2 s7.bel s7
    clear s7
    refine hK.out _ _ (Y.out _ B7.out cE.out) (fun D=>?_)
    clear hK K
    try simp only [Act.put,List.setIfInBounds_toArray,List.set_cons_zero,List.set_cons_succ]
    refine onT B 10 (opC (opC (opB (opB opA)))) D ?_
    obtain ⟨q8,aN,hu⟩:=aM.out w7 (leF x.net es ⟨a,b⟩) Sx mx qx S7.out
    obtain ⟨⟨z0,c0⟩,f0⟩:=aN 0 (by omega)
    obtain ⟨⟨z1,c1⟩,f1⟩:=aN 1 (by omega)
    obtain ⟨⟨z2,c2⟩,f2⟩:=aN 2 (by omega)
    obtain ⟨⟨z3,c3⟩,f3⟩:=aN 3 (by omega)
    rw [Nat.add_zero] at c0 f0
    have af:=Hd hu
    clear aN hu
    refine tF B 11 (opC (opC (opB (opB (opB opA))))) ?_
    go_wp2_with fail
    refine NoPanic.normal ?_
    go_wp2_with fail
    go_roundw
    ·exact ⟨e+1,by omega,by go_num,by rw [ex.out];exact af.out.sub (List.Sublist.cons_cons _ (List.Sublist.cons_cons _ (List.nil_sublist _)))⟩
    simp [intOf];omega
   have bv:e=en:=by omega
   have d3:=dF (by omega:en<=e)
   have am:Hid (fH d x (k+1)=setLes TB T (mE x.net es e)):=by show _=_;rw [R.out,bv,←ax.out]
   clear bv
   go_wp2_with fail
   go_roundw
   ·exact ⟨k+1,by omega,by go_num,by rw [am.out];exact Z.out.sub (List.Sublist.cons_cons _ (List.nil_sublist _))⟩
   simp [intOf];omega
  have a9:k=bn:=by omega
  have ci:=dF (by omega:bn<=k)
  have HC:Hid (cfgD d x=fH d x k):=by show _=_;rw [show cfgD d x=ql d x from if_pos HF.out];unfold ql;rw [a5.out,a9]
  have HR:Hid (aJ w wr [.cel (dW (cfgD d x)) (.slice (some ⟨gT,0,none⟩) N c)]):=by
   have h1:=J.out.lowerC z.out (lo:=W9.heap.size) (hi:=W9.heap.size) z.out.size (Nat.le_refl _) (Chg.refl' _ _ _)
   show aJ _ _ _
   rw [HC.out]
   exact h1
  clear a9
  go_wp2_with fail
  go_ret2
  exact ⟨some ⟨gT,0,none⟩,N,c,by rw [ae HF.out];rfl,HR.out⟩
 rw [bJ hf]
 rintro _ w1 ⟨rfl,b1⟩
 have HR:Hid (aJ w w1 [.cel (dW (cfgD d x)) (.slice none 0 0)]):=by
  show aJ _ _ _
  rw [show cfgD d x=[] from if_neg hf]
  exact (aJ.nil (aA z.out b1)).pushNil 110 4
 have cX:=Hd hf
 have eb:=Hd (bJ hf)
 clear b1 hf x0 x1 x2 x3 lx y0 y1 y2 y3 y4 y5 y6 y7 ly
 go_wp2_with fail
 go_ret2
 exact ⟨none,0,0,by rw [eb.out];rfl,HR.out⟩
end Go.Proofs.YtofihjoanjkdmaaGreat
