/- Selections of nodes in the reference (printed by mksel.py). -/
import Derived.Test.YtofihjoanjkdmaaGreatCfgE
import Derived.Test.YtofihjoanjkdmaaGreatHeldT
import Derived.Test.YtofihjoanjkdmaaGreatLayDM
import Derived.Test.YtofihjoanjkdmaaGreatLayS14
namespace Go.Proofs.YtofihjoanjkdmaaGreat
set_option maxHeartbeats 16000000
set_option maxRecDepth 100000
open Go.RowKit
theorem rG (l:ag) (SA LA OA:Option Addr) (sn sc ln lc on oc:Nat) (it:Int) (es:List LeT) (Z:Option Addr) (B V:Nat) (node:Int) (w:World) (h:fU w l SA LA OA sn sc ln lc on oc) (hf:az l) (hE:RdC w w.heap.size (cZ es) (.slice Z B V)) (hK:∀e∈es,dG l e) (bf:B<=100000) :
  Calls Tryz.prog 139 #[jE l SA LA OA sn sc ln lc on oc,.agg #[.int .i64 3,.int .i64 it,.slice Z B V],.int .i64 node] w fun e w'=>e = .returned (.int .i64 (iM l es node))/\Below w.heap.size w w':=by
 have aS:=hE.esN
 obtain ⟨HE,ak⟩:=hd2 hE aS
 clear hE aS
 have G:=Hd (aB (aB (Below.refl w.heap.size w) (.cells (ai l SA LA OA sn sc ln lc on oc) 41)) (.cells #[.int .i64 3,.int .i64 it,.slice Z B V] 89))
 have D:=aW (.cells #[.int .i64 3,.int .i64 it,.slice Z B V] 89) (aI w (.cells (ai l SA LA OA sn sc ln lc on oc) 41))
 have K:=aI (w.alloc (.cells (ai l SA LA OA sn sc ln lc on oc) 41)) (.cells #[.int .i64 3,.int .i64 it,.slice Z B V] 89)
 simp only [World.size_alloc] at K
 obtain ⟨aT,aE⟩:=hd2 D K
 clear D K
 obtain ⟨ah,ad,ao⟩:=h.lens
 have a5:=hf.nseq
 have bq:=hf.nlut
 have a4:=hf.nout
 have bJ:=hf.inp
 rw [ah] at a5
 rw [ad] at bq
 rw [ao] at a4
 obtain ⟨HN,HF,bN,bE,bI⟩:=hd5 h hf ah ad ao
 have bF:Hid ((l.first:Int)=1+l.inputs+(sn:Int)):=by show _=_;unfold ag.first;omega
 have aM:Hid ((l.count:Int)=1+l.inputs+(sn:Int)+(ln:Int)):=by show _=_;unfold ag.count ag.first;omega
 clear h hf ah ad ao
 have aj:=Hd hK
 clear hK
 by_cases I:node=0
 ·have HR:Hid (iM l es node=0):=if_pos I
  have d0:(node==0)=true:=by simp [I]
  clear I
  go_enter Tryz.func139,Tryz.ntmps139
  go_upto_region 1 with fail
  generalize (w.alloc (.cells (ai l SA LA OA sn sc ln lc on oc) 41)).alloc (.cells #[.int .i64 3,.int .i64 it,.slice Z B V] 89)=W9 at *
  go_wp2_with fail
  go_ret
  exact ⟨aL HR.out.symm,G.out⟩
 have af:Hid (iM l es node=match ku (es.map (dA l)) node with
  | some k=>6+(k:Int)
  | none=>match ku (fD l es) node with
   | some k=>1+(k:Int)
   | none=>0):=if_neg I
 have d0:(node==0)=false:=by simp [I]
 have aF:=aT
 have aG:=aE
 clear I
 go_enter Tryz.func139,Tryz.ntmps139
 go_upto_region 1 with fail
 generalize (w.alloc (.cells (ai l SA LA OA sn sc ln lc on oc) 41)).alloc (.cells #[.int .i64 3,.int .i64 it,.slice Z B V] 89)=W9 at *
 have lx:=aC aT.out
 have ly:=aC aE.out
 go_wp2_with fail
 clear lx ly
 go_loopw [7] (fun i wr=>∃k:Nat,k<=B/\i = .int .i64 k/\Below W9.heap.size W9 wr/\∀j,j<k→(es.map (dA l))[j]?.getD 0≠node) (fun i _=>B - (intOf i).toNat)
 ·exact ⟨0,Nat.zero_le _,rfl,Below.refl _ _,fun j hj=>by omega⟩
 obtain ⟨k,hk,rfl,hb,z⟩:=hrel
 obtain ⟨g,H⟩:=hd2 hb z
 clear hb z
 by_cases bo:k<B
 ·have bg:=dT (by omega:k<B)
  have J:k<es.length:=by rw [ak.out];exact bo
  obtain ⟨be,oe,aw,aq,c0,c1⟩:=HE.out.es (k:=k) J
  have bl:=Hd aw
  have R:=aA G.out g.out
  have bn:=aK R aq
  rw [←R.cell (p:=⟨be,oe+k * 2,none⟩) aq] at c0
  rw [←R.cell (p:=⟨be,oe+k * 2+1,none⟩) aq] at c1
  clear R aw
  have am:=Hd (aj.out _ (List.getElem_mem J))
  have ap:=wV (l:=l) J
  have hG:dA l ⟨(es[k]?.getD LeT.zero).lut,(es[k]?.getD LeT.zero).ff⟩≠node→∀j,j<k+1→(es.map (dA l))[j]?.getD 0≠node:=fun h=>bW H.out (by rw [ap];exact h)
  have hS:dA l ⟨(es[k]?.getD LeT.zero).lut,(es[k]?.getD LeT.zero).ff⟩=node→iM l es node=6+(k:Int):=fun h=>by
   rw [af.out,lN (k:=k) (by rw [List.length_map];exact J) (by rw [ap];exact h) H.out]
  rw [show es[k]=es[k]?.getD LeT.zero by rw [List.getElem?_eq_getElem J];rfl] at am
  obtain ⟨U,u⟩:=hd2 hG hS
  clear J ap hG hS
  obtain rfl:=bl.out
  generalize es[k]?.getD LeT.zero=e at *
  obtain ⟨a,b⟩:=e
  simp only at c0 c1 U u am
  obtain ⟨i0,i1⟩:=ib (by omega:k<B)
  have D:=aD g.out aF.out
  have K:=aD g.out aG.out
  obtain ⟨x0,x1,x2,x3⟩:=cs4 D
  obtain ⟨y0,y1,y2⟩:=cs3 K
  have lx:=aC D
  have ly:=aC K
  clear D K
  have aM:=Hd (fun (v:Sub wr)=>rV l SA LA OA sn sc ln lc on oc a b v.v (HN.out.below (aA (aA G.out g.out) v.h)) HF.out am.out)
  generalize dA l ⟨a,b⟩=Y at *
  go_upto_region 6 with fail
  have aV:=aY wr
  have a9:=aP wr
  refine wpB wr ?_
  repeat (go_big_quiet_step ((first
   | (go_at_call 204;with_reducible exact aN (aM.out _)))))
  refine wpQuiet_nil ?_
  rintro wq ⟨⟨w5,hD⟩,hw⟩
  replace hw:wq=w5:=hw
  subst hw
  clear aV a9
  have aJ:=Hd (aA g.out hD)
  clear hD c0 c1 bn x0 x1 x2 x3 y0 y1 y2 lx ly
  by_cases hY:Y=node
  ·have dy:(Y==node)=true:=by simp [hY]
   have HR:=Hd (u.out hY)
   clear U u hY
   go_wp2_with fail
   go_ret
   exact ⟨aL HR.out.symm,aA G.out aJ.out⟩
  have dy:(Y==node)=false:=by simp [hY]
  have ar:=Hd (U.out hY)
  clear U u hY
  go_wp2_with fail
  go_roundw
  ·exact ⟨k+1,by omega,by go_num,aJ.out,ar.out⟩
  simp [intOf];omega
 have av:k=B:=by omega
 have bg:=dF (by omega:B<=k)
 have aR:Hid (ku (es.map (dA l)) node=none):=lQ (fun j hj=>H.out j (by rw [av,←ak.out];rwa [List.length_map] at hj))
 clear H av
 have D:=aD g.out aF.out
 have K:=aD g.out aG.out
 obtain ⟨x0,x1,x2,x3⟩:=cs4 D
 obtain ⟨y0,y1,y2⟩:=cs3 K
 have lx:=aC D
 have ly:=aC K
 clear D K
 go_wp2_with fail
 refine (oL l SA LA OA sn sc ln lc on oc es Z B V _ (HN.out.below (aA G.out g.out)) HF.out (HE.out.below (aA G.out g.out)) aj.out bf).mono ?_
 rintro _ w3 ⟨PA,pn,pc,rfl,op,b3⟩
 have al:=Hd op.ints
 have aX:=Hd (aA (aA G.out g.out) b3)
 have bK:pn<=1099511627776:=by
  have h1:=op.len
  have h2:(fD l es).length<=4 * B:=yw HF.out aj.out (by rw [ak.out];exact Nat.le_refl _)
  omega
 clear b3 op x0 x1 x2 x3 y0 y1 y2 lx ly
 go_wp2_with fail
 go_loopw [9] (fun i wr=>∃q:Nat,q<=pn/\i = .int .i64 (q:Int)/\w3=wr/\∀j,j<q→(fD l es)[j]?.getD 0≠node) (fun i _=>pn - (intOf i).toNat)
 ·exact ⟨0,by omega,rfl,rfl,fun j hj=>by omega⟩
 obtain ⟨q,hq,rfl,rfl,z⟩:=hrel
 have Q:=Hd z
 clear z
 by_cases W:q<pn
 ·have a6:=dT (by omega:q<pn)
  have ay:q<(fD l es).length:=by rw [al.out.1];exact W
  obtain ⟨bp,op,aO,bH,ax⟩:=al.out.2 (by omega)
  have bj:=Hd aO
  have cp:=ax q W
  have hG:(fD l es)[q]?.getD 0≠node→∀j,j<q+1→(fD l es)[j]?.getD 0≠node:=fun h=>bW Q.out h
  have hS:(fD l es)[q]?.getD 0=node→iM l es node=1+(q:Int):=fun h=>by
   rw [af.out,aR.out]
   show (match ku (fD l es) node with|some k=>1+(k:Int)|none=>0)=_
   rw [lN (k:=q) ay h Q.out]
  obtain ⟨U,u⟩:=hd2 hG hS
  clear ax aO hG hS ay
  obtain rfl:=bj.out
  generalize (fD l es)[q]?.getD 0=x at *
  obtain ⟨i0,i1⟩:=ib (by omega:q<pn)
  by_cases D:x=node
  ·have dx:(x==node)=true:=by simp [D]
   have HR:=Hd (u.out D)
   clear U u D
   go_wp2_with fail
   go_ret
   exact ⟨aL HR.out.symm,aX.out⟩
  have dx:(x==node)=false:=by simp [D]
  have ar:=Hd (U.out D)
  clear U u D
  go_wp2_with fail
  go_roundw
  ·exact ⟨q+1,by omega,by go_num,by first|rfl|trivial,ar.out⟩
  simp [intOf];omega
 have aU:q=pn:=by omega
 have a6:=dF (by omega:pn<=q)
 have HR:Hid (iM l es node=0):=by
  show _=_
  rw [af.out,aR.out]
  show (match ku (fD l es) node with|some k=>1+(k:Int)|none=>0)=_
  rw [lQ (fun j hj=>Q.out j (by rw [aU,←al.out.1];exact hj))]
 clear Q aU
 go_wp2_with fail
 go_ret
 exact ⟨aL HR.out.symm,aX.out⟩
theorem yJ (l:ag) (SA LA OA:Option Addr) (sn sc ln lc on oc:Nat) (it:Int) (es:List LeT) (EA:Option Addr) (V ec:Nat) (w:World) (hN:fU w l SA LA OA sn sc ln lc on oc) (hf:az l) (hE:RdC w w.heap.size (cZ es) (.slice EA V ec)) (hK:∀e∈es,dG l e) (cf:V<=2) :
  Calls Tryz.prog 70 #[jE l SA LA OA sn sc ln lc on oc,.agg #[.int .i64 3,.int .i64 it,.slice EA V ec]] w fun e w'=>∃S m q,e = .returned (.slice S m q)/\aJ w w' [.cel (iE (mE l es es.length)) (.slice S m q)]:=by
 obtain ⟨bs,bq,cJ⟩:=hN.lens
 have dw:sn<=12:=by rw [←bs];exact hf.nseq
 have dI:ln<=400:=by rw [←bq];exact hf.nlut
 have a7:Hid (es.length=V):=hE.esN
 obtain ⟨ci,cw,HN,HF,HE,HK⟩:=hd6 bs bq hN hf hE hK
 clear hN hf hE hK bs bq cJ
 have u:=Hd (aB (aB (Below.refl w.heap.size w) (.cells (ai l SA LA OA sn sc ln lc on oc) 41)) (.cells #[.int .i64 3,.int .i64 it,.slice EA V ec] 89))
 have h1:=aW (.cells #[.int .i64 3,.int .i64 it,.slice EA V ec] 89) (aI w (.cells (ai l SA LA OA sn sc ln lc on oc) 41))
 have h2:=aI (w.alloc (.cells (ai l SA LA OA sn sc ln lc on oc) 41)) (.cells #[.int .i64 3,.int .i64 it,.slice EA V ec] 89)
 simp only [World.size_alloc] at h2
 obtain ⟨I,Z⟩:=hd2 h1 h2
 clear h1 h2
 go_enter Tryz.func70,Tryz.ntmps70
 go_upto_region 1 with fail
 obtain ⟨gN,bK⟩:∃g,w.heap.size=g:=⟨_,rfl⟩
 obtain ⟨gK,bE⟩:∃g,gN+1=g:=⟨_,rfl⟩
 generalize (w.alloc (.cells (ai l SA LA OA sn sc ln lc on oc) 41)).alloc (.cells #[.int .i64 3,.int .i64 it,.slice EA V ec] 89)=Y at *
 rw [bK] at I Z
 rw [bE] at Z
 (try rw [bK])
 (try rw [bE])
 clear bK bE
 have cV:=fun W=>FT W
 have a6:=Hd (aJ.nil (Below.refl Y.heap.size Y))
 go_cut [5] (fun p w'=>uy Y p w')
 case first =>
  go_region
  all_goals
   go_wp2_with fail
   go_meet
   first|exact tN a6.out (by simp)|exact tN a6.out.drew (by simp)|exact (tN a6.out (by simp)).drew
 obtain ⟨gL,rfl,b4⟩:=hcut
 have cS:=Hd b4
 clear b4 a6
 go_wp2_with fail
 go_loopw [6] (fun i wr=>∃k:Nat,k<=V/\i = .int .i64 (k:Int)/\aJ Y wr [.cel (iE (mE l es k)) (.slice (some ⟨gL,0,none⟩) 2 2)]) (fun i _=>V - (intOf i).toNat)
 ·exact ⟨0,by omega,rfl,by rw [wZ];exact cS.out⟩
 obtain ⟨k,hk,rfl,hs⟩:=hrel
 have HS:=Hd hs
 clear hs
 obtain ⟨-,-,k2,lk⟩:=jX (aD HS.out.bel Z.out)
 by_cases cY:k<V
 ·have cP:=dT (by omega:k<V)
  have a2:k<es.length:=by rw [a7.out];exact cY
  obtain ⟨be,oe,bW,bG,bd,a4⟩:=HE.out.es (k:=k) a2
  have br:dG l (es[k]?.getD LeT.zero):=by rw [List.getElem?_eq_getElem a2];exact HK.out _ (List.getElem_mem a2)
  have bf:=yx l (by rw [a7.out];exact cf) a2
  have bJ:k<(mE l es k).length:=by rw [ul l (by rw [a7.out];exact cf) (by omega)];omega
  have bg:=Hd (aA u.out HS.out.bel)
  rw [←bg.out.cell (p:=⟨be,oe+k * 2,none⟩) bG] at bd
  rw [←bg.out.cell (p:=⟨be,oe+k * 2+1,none⟩) bG] at a4
  have cX:=aK bg.out bG
  obtain ⟨el,cj⟩:∃y,es[k]?.getD LeT.zero=y:=⟨_,rfl⟩
  rw [cj] at bd a4 br bf
  obtain ⟨a,b⟩:=el
  obtain ⟨aL,cW⟩:=hd2 br bW
  clear cj br bW a2
  obtain rfl:=cW.out
  obtain ⟨LS,cd⟩:∃y,mE l es k=y:=⟨_,rfl⟩
  rw [cd] at HS bf bJ
  obtain ⟨bB,bO⟩:=hd2 bf bJ
  clear cd bf bJ
  simp only at bd a4
  obtain ⟨i0,i1⟩:=ib (by omega:k<V)
  have i2:(k:Int)<2:=by omega
  have dy:k<2:=by omega
  have bL:=((HS.out.pushOwn (aB (Below.refl _ _) I4) (Own.made (cur:=#[.int .i64 0,.int .i64 0,.int .i64 0,.int .i64 0]) (aI wr _) (Nat.le_refl _) (by unfold maxLen;simp) rfl rfl:Own wr.heap.size (wr.alloc I4) (some ⟨wr.heap.size,0,none⟩) 4 4 [0,0,0,0])).pushBlk #[.slice (some ⟨wr.heap.size,0,none⟩) 4 4,.int .i64 2,.int .i64 0,.int .i64 0] 121).pushBlk #[.int .i64 a,.int .i64 b] 94
  simp only [World.size_alloc] at bL
  have aY:=Hd bL
  clear bL
  go_upto_region 7 with fail
  clear bd a4 cX k2 lk
  obtain ⟨H,bt⟩:∃g,wr.heap.size=g:=⟨_,rfl⟩
  obtain ⟨J,bv⟩:∃g,H+1=g:=⟨_,rfl⟩
  obtain ⟨gE,bH⟩:∃g,J+1=g:=⟨_,rfl⟩
  rw [bt] at aY
  rw [bv] at aY
  rw [bH] at aY
  (try rw [bt])
  (try rw [bv])
  (try rw [bH])
  clear bt bv bH
  generalize ((wr.alloc I4).alloc (.cells #[.slice (some ⟨H,0,none⟩) 4 4,.int .i64 2,.int .i64 0,.int .i64 0] 121)).alloc (.cells #[.int .i64 a,.int .i64 b] 94)=W1 at *
  have av:Hid (aJ Y W1 [.cel (iE (LS)) (.slice (some ⟨gL,0,none⟩) 2 2),.cel (aH ([0,0,0,0])) (.slice (some ⟨H,0,none⟩) 4 4),.blk J #[.slice (some ⟨H,0,none⟩) 4 4,.int .i64 (2),.int .i64 (0),.int .i64 (0)] 121,.blk gE #[.int .i64 (a),.int .i64 (b)] 94]):=aY
  clear aY HS bg cV
  obtain ⟨e0,le⟩:=wO ((av.out.blk 3 rfl).1)
  by_cases ha:0<=a
  ·obtain ⟨m,hm⟩:∃m:Nat,a=(m:Int):=⟨a.toNat,by omega⟩
   subst hm
   have a9:m<l.luts.length:=by have h1:(m:Int)<(l.luts.length:Int):=aL.out.lut.2;omega
   have dC:m<ln:=by rw [←cw.out];exact a9
   obtain ⟨gt,ot,IA,im,ic,ce,a8,t0,t1,rI⟩:=HN.out.lt.lut' (k:=m) a9
   have ax:=Hd rI.ints
   have bz:im<=4:=by rw [←ax.out.1];exact (HF.out.luts m a9).1
   have cT:Hid ((l.luts[m]?.getD Lt.zero).ins.length<=4):=(HF.out.luts m a9).1
   have cL:=Hd ce
   have cl:Hid (∀v,Below w.heap.size w v→v.cell? ⟨gt,ot+m * 2,none⟩=some (.slice IA im ic)):=fun v hv=>(hv.cell (p:=⟨gt,ot+m * 2,none⟩) a8).trans t0
   have ca:Hid (∀v,Below w.heap.size w v→v.cell? ⟨gt,ot+m * 2+1,none⟩=some (.int .i64 (l.luts[m]?.getD Lt.zero).mask)):=fun v hv=>(hv.cell (p:=⟨gt,ot+m * 2+1,none⟩) a8).trans t1
   clear ce t0 t1 rI
   obtain rfl:=cL.out
   have da:decide ((m:Int)≥0)=true:=by simp
   obtain ⟨dB,ds⟩:=ib (by omega:m<ln)
   have t1:=ca.out _ (aA u.out av.out.bel)
   have bc:=aK (aA u.out av.out.bel) a8
   have aq:Hid ((leF l es ⟨(m:Int),b⟩).sel=lJ (iM l es) (l.luts[m]?.getD Lt.zero).ins (l.luts[m]?.getD Lt.zero).ins.length/\(leF l es ⟨(m:Int),b⟩).mask=(l.luts[m]?.getD Lt.zero).mask):=⟨by unfold leF;simp,by unfold leF;simp⟩
   generalize (l.luts[m]?.getD Lt.zero).mask=mk at *
   have Q:=(av.out.blk 2 rfl).1
   have b1:=aF (k:=1) Q rfl
   have cv:=aX Q 1
   have lb:=aC Q
   clear Q
   obtain ⟨-,-,n2,al⟩:=jX (aD av.out.bel I.out)
   go_upto_region 9 with fail
   have cM:Hid (aJ Y (W1.setCell ⟨J,1,none⟩ (.int .i64 mk)) [.cel (iE (LS)) (.slice (some ⟨gL,0,none⟩) 2 2),.cel (aH ([0,0,0,0])) (.slice (some ⟨H,0,none⟩) 4 4),.blk J #[.slice (some ⟨H,0,none⟩) 4 4,.int .i64 (mk),.int .i64 (0),.int .i64 (0)] 121,.blk gE #[.int .i64 ((m:Int)),.int .i64 (b)] 94]):=Hd (av.out.put 2 rfl 1 (.int .i64 mk))
   generalize W1.setCell ⟨J,1,none⟩ (.int .i64 mk)=W2 at *
   clear t1 bc b1 cv lb n2 al e0 le
   go_wp2_with fail
   go_loopw [9] (fun i wr=>∃j:Nat,j<=im/\i = .int .i64 (j:Int)/\aJ Y wr [.cel (iE (LS)) (.slice (some ⟨gL,0,none⟩) 2 2),.cel (aH (lJ (iM l es) (l.luts[m]?.getD Lt.zero).ins j)) (.slice (some ⟨H,0,none⟩) 4 4),.blk J #[.slice (some ⟨H,0,none⟩) 4 4,.int .i64 (mk),.int .i64 (0),.int .i64 (0)] 121,.blk gE #[.int .i64 ((m:Int)),.int .i64 (b)] 94]) (fun i _=>im - (intOf i).toNat)
   ·exact ⟨0,by omega,rfl,cM.out⟩
   obtain ⟨j,hj,rfl,hs⟩:=hrel
   have HS:=Hd hs
   clear hs
   have t0:=cl.out _ (aA u.out HS.out.bel)
   have bc:=aK (aA u.out HS.out.bel) a8
   obtain ⟨-,-,n2,al⟩:=jX (aD HS.out.bel I.out)
   obtain ⟨e0,le⟩:=wO ((HS.out.blk 3 rfl).1)
   by_cases cp:j<im
   ·have dj:=dT (by omega:j<im)
    have aT:j<(l.luts[m]?.getD Lt.zero).ins.length:=by rw [ax.out.1];exact cp
    obtain ⟨bi,oi,aV,bF,aS⟩:=ax.out.2 (by omega)
    have bp:=wY (iM l es) cT.out aT
    obtain ⟨nd,ay⟩:∃y,(l.luts[m]?.getD Lt.zero).ins[j]?.getD 0=y:=⟨_,rfl⟩
    have ah:=aS j cp
    rw [ay] at ah bp
    have c4:Hid (∀v,Below w.heap.size w v→v.cell? ⟨bi,oi+j,none⟩=some (.int .i64 nd)):=fun v hv=>(hv.cell (p:=⟨bi,oi+j,none⟩) bF).trans ah
    obtain ⟨bY,bP⟩:=hd2 bp aV
    clear aV aS ay bp aT ah
    obtain rfl:=bP.out
    obtain ⟨j0,j1⟩:=ib (by omega:j<im)
    have j4:(j:Int)<4:=by omega
    have cN:j<4:=by omega
    obtain ⟨SL,cg⟩:∃y,lJ (iM l es) (l.luts[m]?.getD Lt.zero).ins j=y:=⟨_,rfl⟩
    rw [cg] at HS bY
    clear cg
    go_upto_region 12 with fail
    clear t0 bc n2 al e0 le
    have a0:=Hd (fun (v:World) (hv:Below Y.heap.size Y v) (node:Int)=>rG l SA (some ⟨gt,ot,none⟩) OA sn sc ln lc on oc it es (some ⟨be,oe,none⟩) V ec node v (HN.out.below (aA u.out hv)) HF.out (HE.out.below (aA u.out hv)) HK.out (by omega))
    have R:Hid (∀(v:World),aJ Y v [.cel (iE (LS)) (.slice (some ⟨gL,0,none⟩) 2 2),.cel (aH (SL)) (.slice (some ⟨H,0,none⟩) 4 4),.blk J #[.slice (some ⟨H,0,none⟩) 4 4,.int .i64 (mk),.int .i64 (0),.int .i64 (0)] 121,.blk gE #[.int .i64 ((m:Int)),.int .i64 (b)] 94]→(v.cell? ⟨J,0,none⟩=some (.slice (some ⟨H,0,none⟩) 4 4)/\K4 v gN (.int .i64 l.inputs) (.slice SA sn sc) (.slice (some ⟨gt,ot,none⟩) ln lc) (.slice OA on oc) (K3 v gK (.int .i64 3) (.int .i64 it) (.slice (some ⟨be,oe,none⟩) V ec) (v.cell? ⟨gE,0,none⟩=some (.int .i64 ((m:Int)))/\v.cell? ⟨gE,1,none⟩=some (.int .i64 (b))/\v.cell? ⟨gt,ot+m * 2,none⟩=some (.slice (some ⟨bi,oi,none⟩) im ic)/\v.cell? ⟨bi,oi+j,none⟩=some (.int .i64 nd))))):=Hd fun v h=>⟨aF (k:=0) (h.blk 2 rfl).1 rfl,aF (k:=0) (aD h.bel I.out) rfl,aF (k:=1) (aD h.bel I.out) rfl,aF (k:=2) (aD h.bel I.out) rfl,aF (k:=3) (aD h.bel I.out) rfl,aF (k:=0) (aD h.bel Z.out) rfl,aF (k:=1) (aD h.bel Z.out) rfl,aF (k:=2) (aD h.bel Z.out) rfl,aF (k:=0) (h.blk 3 rfl).1 rfl,aF (k:=1) (h.blk 3 rfl).1 rfl,cl.out _ (aA u.out h.bel),c4.out _ (aA u.out h.bel)⟩
    have HT:Hid (aJ Y wr.drew [.cel (iE (LS)) (.slice (some ⟨gL,0,none⟩) 2 2),.cel (aH (SL)) (.slice (some ⟨H,0,none⟩) 4 4),.blk J #[.slice (some ⟨H,0,none⟩) 4 4,.int .i64 (mk),.int .i64 (0),.int .i64 (0)] 121,.blk gE #[.int .i64 ((m:Int)),.int .i64 (b)] 94]):=Hd HS.out.drew
    have bA:=HT.out.bel
    refine wp_region_noPanic ?_
    refine iR 17 (fun w'=>w'.cell? ⟨J,0,none⟩=some (.slice (some ⟨H,0,none⟩) 4 4)/\K4 w' gN (.int .i64 l.inputs) (.slice SA sn sc) (.slice (some ⟨gt,ot,none⟩) ln lc) (.slice OA on oc) (K3 w' gK (.int .i64 3) (.int .i64 it) (.slice (some ⟨be,oe,none⟩) V ec) (w'.cell? ⟨gE,0,none⟩=some (.int .i64 ((m:Int)))/\w'.cell? ⟨gE,1,none⟩=some (.int .i64 (b))/\w'.cell? ⟨gt,ot+m * 2,none⟩=some (.slice (some ⟨bi,oi,none⟩) im ic)/\w'.cell? ⟨bi,oi+j,none⟩=some (.int .i64 nd)))) (R.out _ HT.out) (fun B G=>?_)
    refine onT B 0 opA G ?_
    refine onT B 1 (opB opA) G ?_
    refine onT B 2 (opB (opB opA)) G ?_
    refine onT B 3 (opB (opB (opB opA))) G ?_
    refine onT B 4 (opC opA) G ?_
    refine onT B 5 (opC (opB opA)) G ?_
    refine onT B 6 (opC (opB (opB opA))) G ?_
    refine onT B 7 (opC (opB (opB (opB opA)))) G ?_
    refine onT B 8 (opC (opC opA)) G ?_
    refine onT B 9 (opC (opC (opB opA))) G ?_
    refine onT B 10 (opC (opC (opB (opB opA)))) G ?_
    refine onT B 11 (opC (opC (opB (opB (opB opA))))) G ?_
    refine onT B 12 (opC (opC (opC opA))) G ?_
    refine onT B 13 (opC (opC (opC (opB opA)))) G ?_
    refine onT B 14 (opC (opC (opC (opB (opB opA))))) G ?_
    refine uF B 15 (opC (opC (opC (opB (opB (opB opA)))))) (fun K hK=>?_)
    go_simp
    go_at_call 139
    with_reducible refine (a0.out _ bA _).mono ?_
    rintro _ w7 ⟨rfl,b7⟩
    have aM:=Hd (HT.out.below b7)
    clear b7
    refine hK.out _ _ (R.out _ aM.out) (fun G=>?_)
    clear hK K
    try simp only [Act.put,List.setIfInBounds_toArray,List.set_cons_zero,List.set_cons_succ]
    refine onT B 16 (opD opA) G ?_
    obtain ⟨_,U,_,q8,c8,f8,hu⟩:=aM.out.setI 1 (i:=j) rfl cN
    injection U with U
    injection U with U
    subst U
    refine tF B 17 (opD (opB opA)) ?_
    go_wp2_with fail
    refine NoPanic.normal ?_
    have cH:=Hd (hu (iM l es nd))
    go_wp2_with fail
    go_roundw
    ·exact ⟨j+1,by omega,by go_num,by have h9:=cH.out;rw [bY.out] at h9;exact h9⟩
    simp [intOf];omega
   have b6:j=im:=by omega
   have dj:=dF (by omega:im<=j)
   have aT:j=(l.luts[m]?.getD Lt.zero).ins.length:=by rw [ax.out.1];exact b6
   rw [aT] at HS
   obtain ⟨WR,rfl⟩:∃y,y=wr:=⟨wr,rfl⟩
   have z:=HS
   go_upto_region 14 with fail
   clear b6 aT HS t0 bc n2 al e0 le
   by_cases Q:0<=b
   ·have df:decide (b≥0)=true:=decide_eq_true Q
    obtain ⟨f,hf⟩:∃f:Nat,b=(f:Int):=⟨b.toNat,by omega⟩
    subst hf
    have au:f<l.seqs.length:=by have h1:(f:Int)<(l.seqs.length:Int):=aL.out.ff.2;omega
    have cI:f<sn:=by rw [←ci.out];exact au
    obtain ⟨cC,cQ⟩:=ib (by omega:f<sn)
    obtain ⟨-,e1,le⟩:=jv ((z.out.blk 3 rfl).1)
    obtain ⟨sb,so,cx,cB,cU,a3,ar,_,d1,_,_⟩:=HN.out.sq.sq' (k:=f) au
    have bu:=Hd a3
    have bI:Hid (∀v,Below w.heap.size w v→v.cell? ⟨sb,so+f * 3+1,none⟩=some (.int .i64 (l.seqs[f]?.getD Sq.zero).init)):=fun v hv=>(hv.cell (p:=⟨sb,so+f * 3+1,none⟩) ar).trans d1
    clear a3 d1
    obtain rfl:=bu.out
    have Q:=(z.out.blk 2 rfl).1
    obtain ⟨-,-,b2,b3⟩:=cs4 Q
    have bw:=aX Q 2
    have bx:=aX Q 3
    have lb:=aC Q
    clear Q
    obtain ⟨-,n1,al⟩:=jv (aD z.out.bel I.out)
    have s1:=bI.out _ (aA u.out z.out.bel)
    have bM:=aK (aA u.out z.out.bel) ar
    have bN:sb<J:=Nat.lt_of_lt_of_le (aK u.out ar) (z.out.blk 2 rfl).2
    have HI:Hid ((leF l es ⟨(m:Int),(f:Int)⟩).flop=1/\(leF l es ⟨(m:Int),(f:Int)⟩).init=(l.seqs[f]?.getD Sq.zero).init):=⟨by unfold leF;simp,by unfold leF;simp⟩
    generalize (l.seqs[f]?.getD Sq.zero).init=ii at *
    go_upto_region 17 with fail
    have aj:Hid (aJ Y ((WR.setCell ⟨J,2,none⟩ (.int .i64 1)).setCell ⟨J,3,none⟩ (.int .i64 ii)) [.cel (iE (LS)) (.slice (some ⟨gL,0,none⟩) 2 2),.cel (aH (lJ (iM l es) (l.luts[m]?.getD Lt.zero).ins (l.luts[m]?.getD Lt.zero).ins.length)) (.slice (some ⟨H,0,none⟩) 4 4),.blk J #[.slice (some ⟨H,0,none⟩) 4 4,.int .i64 (mk),.int .i64 (1),.int .i64 (ii)] 121,.blk gE #[.int .i64 ((m:Int)),.int .i64 ((f:Int))] 94]):=Hd ((z.out.put 2 rfl 2 (.int .i64 1)).put 2 rfl 3 (.int .i64 ii))
    generalize (WR.setCell ⟨J,2,none⟩ (.int .i64 1)).setCell ⟨J,3,none⟩ (.int .i64 ii)=WF at *
    clear s1 bM bN b2 b3 bw bx lb n1 al e1 le
    have aZ:Hid (mE l es (k+1)=LS.set k ⟨lJ (iM l es) (l.luts[m]?.getD Lt.zero).ins (l.luts[m]?.getD Lt.zero).ins.length,mk,1,ii⟩):=by show _=_;rw [←bB.out,EG aq.out.1 aq.out.2 HI.out.1 HI.out.2]
    obtain ⟨_,D,cc,⟨⟨x0,c0⟩,⟨x1,c1⟩,⟨x2,c2⟩,⟨x3,c3⟩⟩,⟨f0,f1,f2,f3⟩,am⟩:=uz aj.out 0 1 (by decide) (e:=k) ⟨lJ (iM l es) (l.luts[m]?.getD Lt.zero).ins (l.luts[m]?.getD Lt.zero).ins.length,mk,1,ii⟩ rfl rfl bO.out
    injection D with D
    injection D with D
    subst D
    have aU:=Hd am
    clear am
    obtain ⟨b0,b1,b2,b3,lb⟩:=cO ((aj.out.blk 2 rfl).1)
    go_wp2_with fail
    go_roundw
    ·exact ⟨k+1,by omega,by go_num,by rw [aZ.out];exact aU.out.sub (List.Sublist.cons_cons _ (List.nil_sublist _))⟩
    simp [intOf];omega
   obtain ⟨-,e1,le⟩:=jv ((z.out.blk 3 rfl).1)
   have df:decide (b≥0)=false:=decide_eq_false Q
   have HI:Hid ((leF l es ⟨(m:Int),b⟩).flop=0/\(leF l es ⟨(m:Int),b⟩).init=0):=⟨by unfold leF;exact if_neg Q,by unfold leF;exact if_neg Q⟩
   clear Q
   go_upto_region 17 with fail
   have aj:=z
   obtain ⟨WF,rfl⟩:∃y,y=WR:=⟨WR,rfl⟩
   clear e1 le
   have aZ:Hid (mE l es (k+1)=LS.set k ⟨lJ (iM l es) (l.luts[m]?.getD Lt.zero).ins (l.luts[m]?.getD Lt.zero).ins.length,mk,0,0⟩):=by show _=_;rw [←bB.out,EG aq.out.1 aq.out.2 HI.out.1 HI.out.2]
   obtain ⟨_,D,cc,⟨⟨x0,c0⟩,⟨x1,c1⟩,⟨x2,c2⟩,⟨x3,c3⟩⟩,⟨f0,f1,f2,f3⟩,am⟩:=uz aj.out 0 1 (by decide) (e:=k) ⟨lJ (iM l es) (l.luts[m]?.getD Lt.zero).ins (l.luts[m]?.getD Lt.zero).ins.length,mk,0,0⟩ rfl rfl bO.out
   injection D with D
   injection D with D
   subst D
   have aU:=Hd am
   clear am
   obtain ⟨b0,b1,b2,b3,lb⟩:=cO ((aj.out.blk 2 rfl).1)
   go_wp2_with fail
   go_roundw
   ·exact ⟨k+1,by omega,by go_num,by rw [aZ.out];exact aU.out.sub (List.Sublist.cons_cons _ (List.nil_sublist _))⟩
   simp [intOf];omega
  have da:decide (a≥0)=false:=decide_eq_false ha
  have Q:0<=b:=by have h1:=aL.out.lut.1;have h2:=aL.out.ff.1;have h3:=aL.out.one;change -1<=a at h1;change -1<=b at h2;change ¬(a=-1/\b=-1) at h3;omega
  obtain ⟨f,hf⟩:∃f:Nat,b=(f:Int):=⟨b.toNat,by omega⟩
  subst hf
  have au:f<l.seqs.length:=by have h1:(f:Int)<(l.seqs.length:Int):=aL.out.ff.2;omega
  have cI:f<sn:=by rw [←ci.out];exact au
  obtain ⟨ak,aw,IA,im,ic,bm,cm,_,_,d2,rI⟩:=HN.out.sq.sq' (k:=f) au
  have ax:=Hd rI.ints
  have bz:1<=im:=by
   rw [←ax.out.1]
   rcases (HF.out.seqs f au).1 with h|h
   ·rw [h.2.2];exact Nat.le_refl _
   rw [h.2.2];omega
  have ch:=Hd bm
  have cK:Hid (∀v,Below w.heap.size w v→v.cell? ⟨ak,aw+f * 3+2,none⟩=some (.slice IA im ic)):=fun v hv=>(hv.cell (p:=⟨ak,aw+f * 3+2,none⟩) cm).trans d2
  obtain ⟨bi,oi,aV,bF,aS⟩:=ax.out.2 bz
  have ah:=aS 0 (by omega)
  rw [Nat.add_zero] at ah
  obtain ⟨nd,ay⟩:∃y,(l.seqs[f]?.getD Sq.zero).ins[0]?.getD 0=y:=⟨_,rfl⟩
  rw [ay] at ah
  have cz:Hid (∀v,Below w.heap.size w v→v.cell? ⟨bi,oi,none⟩=some (.int .i64 nd)):=fun v hv=>(hv.cell (p:=⟨bi,oi,none⟩) bF).trans ah
  have bP:=Hd aV
  have aq:Hid ((leF l es ⟨a,(f:Int)⟩).sel=[iM l es nd,0,0,0]/\(leF l es ⟨a,(f:Int)⟩).mask=2):=by
   constructor
   ·unfold leF
    simp only [if_neg ha]
    rw [Int.toNat_natCast,ay]
   unfold leF
   exact if_neg ha
  clear bm d2 rI aV aS ah ay ha
  obtain rfl:=ch.out
  obtain rfl:=bP.out
  have cC:(0:Int)<=(f:Int):=Q
  have cQ:(f:Int)<(sn:Int):=by omega
  have dz:(0:Int)<(im:Int):=by omega
  have di:0<im:=bz
  have dx:(0:Int)<4:=by omega
  obtain ⟨wr,rfl⟩:∃y,y=W1:=⟨W1,rfl⟩
  go_upto_region 13 with fail
  clear e0 le
  have a0:=Hd (fun (v:World) (hv:Below Y.heap.size Y v) (node:Int)=>rG l (some ⟨ak,aw,none⟩) LA OA sn sc ln lc on oc it es (some ⟨be,oe,none⟩) V ec node v (HN.out.below (aA u.out hv)) HF.out (HE.out.below (aA u.out hv)) HK.out (by omega))
  have R:Hid (∀(v:World),aJ Y v [.cel (iE (LS)) (.slice (some ⟨gL,0,none⟩) 2 2),.cel (aH ([0,0,0,0])) (.slice (some ⟨H,0,none⟩) 4 4),.blk J #[.slice (some ⟨H,0,none⟩) 4 4,.int .i64 (2),.int .i64 (0),.int .i64 (0)] 121,.blk gE #[.int .i64 (a),.int .i64 ((f:Int))] 94]→(v.cell? ⟨J,0,none⟩=some (.slice (some ⟨H,0,none⟩) 4 4)/\K4 v gN (.int .i64 l.inputs) (.slice (some ⟨ak,aw,none⟩) sn sc) (.slice LA ln lc) (.slice OA on oc) (K3 v gK (.int .i64 3) (.int .i64 it) (.slice (some ⟨be,oe,none⟩) V ec) (v.cell? ⟨gE,0,none⟩=some (.int .i64 (a))/\v.cell? ⟨gE,1,none⟩=some (.int .i64 ((f:Int)))/\v.cell? ⟨ak,aw+f * 3+2,none⟩=some (.slice (some ⟨bi,oi,none⟩) im ic)/\v.cell? ⟨bi,oi,none⟩=some (.int .i64 nd))))):=Hd fun v h=>⟨aF (k:=0) (h.blk 2 rfl).1 rfl,aF (k:=0) (aD h.bel I.out) rfl,aF (k:=1) (aD h.bel I.out) rfl,aF (k:=2) (aD h.bel I.out) rfl,aF (k:=3) (aD h.bel I.out) rfl,aF (k:=0) (aD h.bel Z.out) rfl,aF (k:=1) (aD h.bel Z.out) rfl,aF (k:=2) (aD h.bel Z.out) rfl,aF (k:=0) (h.blk 3 rfl).1 rfl,aF (k:=1) (h.blk 3 rfl).1 rfl,cK.out _ (aA u.out h.bel),cz.out _ (aA u.out h.bel)⟩
  have HT:Hid (aJ Y wr.drew [.cel (iE (LS)) (.slice (some ⟨gL,0,none⟩) 2 2),.cel (aH ([0,0,0,0])) (.slice (some ⟨H,0,none⟩) 4 4),.blk J #[.slice (some ⟨H,0,none⟩) 4 4,.int .i64 (2),.int .i64 (0),.int .i64 (0)] 121,.blk gE #[.int .i64 (a),.int .i64 ((f:Int))] 94]):=Hd av.out.drew
  have bA:=HT.out.bel
  refine wp_region_noPanic ?_
  refine iR 15 (fun w'=>w'.cell? ⟨J,0,none⟩=some (.slice (some ⟨H,0,none⟩) 4 4)/\K4 w' gN (.int .i64 l.inputs) (.slice (some ⟨ak,aw,none⟩) sn sc) (.slice LA ln lc) (.slice OA on oc) (K3 w' gK (.int .i64 3) (.int .i64 it) (.slice (some ⟨be,oe,none⟩) V ec) (w'.cell? ⟨gE,0,none⟩=some (.int .i64 (a))/\w'.cell? ⟨gE,1,none⟩=some (.int .i64 ((f:Int)))/\w'.cell? ⟨ak,aw+f * 3+2,none⟩=some (.slice (some ⟨bi,oi,none⟩) im ic)/\w'.cell? ⟨bi,oi,none⟩=some (.int .i64 nd)))) (R.out _ HT.out) (fun B G=>?_)
  refine onT B 0 opA G ?_
  refine onT B 1 (opB opA) G ?_
  refine onT B 2 (opB (opB opA)) G ?_
  refine onT B 3 (opB (opB (opB opA))) G ?_
  refine onT B 4 (opC opA) G ?_
  refine onT B 5 (opC (opB opA)) G ?_
  refine onT B 6 (opC (opB (opB opA))) G ?_
  refine onT B 7 (opC (opB (opB (opB opA)))) G ?_
  refine onT B 8 (opC (opC opA)) G ?_
  refine onT B 9 (opC (opC (opB opA))) G ?_
  refine onT B 10 (opC (opC (opB (opB opA)))) G ?_
  refine onT B 11 (opC (opC (opB (opB (opB opA))))) G ?_
  refine onT B 12 (opC (opC (opC opA))) G ?_
  refine uF B 13 (opC (opC (opC (opB opA)))) (fun K hK=>?_)
  go_simp
  go_at_call 139
  with_reducible refine (a0.out _ bA _).mono ?_
  rintro _ w7 ⟨rfl,b7⟩
  have aM:=Hd (HT.out.below b7)
  clear b7
  refine hK.out _ _ (R.out _ aM.out) (fun G=>?_)
  clear hK K
  try simp only [Act.put,List.setIfInBounds_toArray,List.set_cons_zero,List.set_cons_succ]
  refine onT B 14 (opC (opC (opC (opB (opB opA))))) G ?_
  obtain ⟨_,U,_,q8,c8,f8,hu⟩:=aM.out.setI 1 (i:=0) rfl (by omega)
  injection U with U
  injection U with U
  subst U
  refine tF B 15 (opC (opC (opC (opB (opB (opB opA)))))) ?_
  go_wp2_with fail
  refine NoPanic.normal ?_
  have z:Hid (aJ Y (w7.setCell ⟨H,0,none⟩ (.int .i64 (iM l es nd))) [.cel (iE (LS)) (.slice (some ⟨gL,0,none⟩) 2 2),.cel (aH ([iM l es nd,0,0,0])) (.slice (some ⟨H,0,none⟩) 4 4),.blk J #[.slice (some ⟨H,0,none⟩) 4 4,.int .i64 (2),.int .i64 (0),.int .i64 (0)] 121,.blk gE #[.int .i64 (a),.int .i64 ((f:Int))] 94]):=Hd (hu (iM l es nd))
  generalize w7.setCell ⟨H,0,none⟩ (.int .i64 (iM l es nd))=WR at *
  clear c8 f8 q8 hu aM HT
  have df:decide ((f:Int)≥0)=true:=decide_eq_true Q
  obtain ⟨-,e1,le⟩:=jv ((z.out.blk 3 rfl).1)
  obtain ⟨sb,so,cx,cB,cU,a3,ar,_,d1,_,_⟩:=HN.out.sq.sq' (k:=f) au
  have bu:=Hd a3
  have bI:Hid (∀v,Below w.heap.size w v→v.cell? ⟨sb,so+f * 3+1,none⟩=some (.int .i64 (l.seqs[f]?.getD Sq.zero).init)):=fun v hv=>(hv.cell (p:=⟨sb,so+f * 3+1,none⟩) ar).trans d1
  clear a3 d1
  have a1:=bu.out
  injection a1 with a1
  injection a1 with h21 h22
  subst h21 h22
  have Q:=(z.out.blk 2 rfl).1
  obtain ⟨-,-,b2,b3⟩:=cs4 Q
  have bw:=aX Q 2
  have bx:=aX Q 3
  have lb:=aC Q
  clear Q
  obtain ⟨-,n1,al⟩:=jv (aD z.out.bel I.out)
  have s1:=bI.out _ (aA u.out z.out.bel)
  have bM:=aK (aA u.out z.out.bel) ar
  have bN:ak<J:=Nat.lt_of_lt_of_le (aK u.out ar) (z.out.blk 2 rfl).2
  have HI:Hid ((leF l es ⟨a,(f:Int)⟩).flop=1/\(leF l es ⟨a,(f:Int)⟩).init=(l.seqs[f]?.getD Sq.zero).init):=⟨by unfold leF;simp,by unfold leF;simp⟩
  generalize (l.seqs[f]?.getD Sq.zero).init=ii at *
  go_upto_region 17 with fail
  have aj:Hid (aJ Y ((WR.setCell ⟨J,2,none⟩ (.int .i64 1)).setCell ⟨J,3,none⟩ (.int .i64 ii)) [.cel (iE (LS)) (.slice (some ⟨gL,0,none⟩) 2 2),.cel (aH ([iM l es nd,0,0,0])) (.slice (some ⟨H,0,none⟩) 4 4),.blk J #[.slice (some ⟨H,0,none⟩) 4 4,.int .i64 (2),.int .i64 (1),.int .i64 (ii)] 121,.blk gE #[.int .i64 (a),.int .i64 ((f:Int))] 94]):=Hd ((z.out.put 2 rfl 2 (.int .i64 1)).put 2 rfl 3 (.int .i64 ii))
  generalize (WR.setCell ⟨J,2,none⟩ (.int .i64 1)).setCell ⟨J,3,none⟩ (.int .i64 ii)=WF at *
  clear s1 bM bN b2 b3 bw bx lb n1 al e1 le
  have aZ:Hid (mE l es (k+1)=LS.set k ⟨[iM l es nd,0,0,0],2,1,ii⟩):=by show _=_;rw [←bB.out,EG aq.out.1 aq.out.2 HI.out.1 HI.out.2]
  obtain ⟨_,D,cc,⟨⟨x0,c0⟩,⟨x1,c1⟩,⟨x2,c2⟩,⟨x3,c3⟩⟩,⟨f0,f1,f2,f3⟩,am⟩:=uz aj.out 0 1 (by decide) (e:=k) ⟨[iM l es nd,0,0,0],2,1,ii⟩ rfl rfl bO.out
  injection D with D
  injection D with D
  subst D
  have aU:=Hd am
  clear am
  obtain ⟨b0,b1,b2,b3,lb⟩:=cO ((aj.out.blk 2 rfl).1)
  go_wp2_with fail
  go_roundw
  ·exact ⟨k+1,by omega,by go_num,by rw [aZ.out];exact aU.out.sub (List.Sublist.cons_cons _ (List.nil_sublist _))⟩
  simp [intOf];omega
 have bV:V=k:=by omega
 have cP:=dF (by omega:V<=k)
 have HR:Hid (aJ w wr [.cel (iE (mE l es es.length)) (.slice (some ⟨gL,0,none⟩) 2 2)]):=by
  have h1:=HS.out.lowerC u.out (lo:=Y.heap.size) (hi:=Y.heap.size) u.out.size (Nat.le_refl _) (Chg.refl' _ _ _)
  rw [a7.out,bV]
  exact h1
 clear bV
 go_wp2_with fail
 go_ret
 exact ⟨_,_,_,rfl,HR.out⟩
theorem vT (d:Dev) (w:World) (hd:dR d=true) :
  Calls Tryz.prog 67 #[.agg (dv d)] w (qi w (ny d)):=by
 obtain ⟨hm,ax,ak,_⟩:=oC hd
 have HD:=Hd hd
 obtain ⟨i0,hi,J,af,z⟩:=info_parts jL
 have U:=fun W=>bv (P:=Tryz.prog) 26 3 i0 _ Tryz.underlying26 hi J .i64 .i64 (ny d) (ny d) (Nat.le_refl _) (by rw [z];omega) (by omega) W
 have I:∀W:World,(Instr.makeSlice 26 (.int .i64 4) (.int .i64 4)).run Tryz.prog W = .ok (.slice (some ⟨W.heap.size,0,none⟩) 4 4) (W.alloc (.cells (madeCells (Value.int .i64 0).cells (4 * i0.size)) 3)):=fun W=>bv (P:=Tryz.prog) 26 3 i0 _ Tryz.underlying26 hi J .i64 .i64 4 4 (Nat.le_refl _) (by rw [z];omega) (by omega) W
 rw [af,Nat.mul_one,show (Value.int .i64 0).cells=#[Value.int .i64 0] from rfl,nu] at U I
 clear hi J af z
 generalize V:ny d=M at *
 have am:=Hd V
 have Q:∀w,Calls Tryz.prog 145 #[.agg (dv d)] w fun e w'=>e = .returned (.int .i64 (M:Int))/\Below w.heap.size w w':=fun w=>by rw [←am.out];exact z8 d w HD.out
 have aq:=Hd Q
 clear hd hm V Q
 go_enter Tryz.func67,Tryz.ntmps67
 go_wp2_with fail
 refine (fw d _).mono ?_
 rintro e u ⟨rfl,b1⟩
 have hS:=xM b1
 have D:=Hd (AB b1)
 rw [HD.out]
 go_wp2_with fail
 clear b1
 obtain ⟨hB,K,c1,c2,c3,R,e1,e2,e3,f0,Z,f2,f3,hl⟩:=hS
 obtain ⟨p1,p2,p3,p4,p5,p6⟩:=yO (a:=w.heap.size) (b:=u.heap.size) (by omega)
 have aO:w.heap.size+1<u.heap.size:=p1
 have j:=Hd (show Below w.heap.size w u/\KD u w.heap.size d (K4 u (w.heap.size+1) (.slice none 0 0) (.slice none 0 0) (.int .i64 0) (.int .i64 0) (u.frozen? ⟨w.heap.size+1,0,none⟩=false/\u.frozen? ⟨w.heap.size+1,1,none⟩=false/\u.frozen? ⟨w.heap.size+1,2,none⟩=false/\u.frozen? ⟨w.heap.size+1,3,none⟩=false/\w.heap.size+1<u.heap.size)) from ⟨hB,K,c1,c2,c3,R,e1,e2,e3,f0,Z,f2,f3,hl⟩)
 clear hl hB ax ak
 have g:KDe u w.heap.size d:=⟨K,c1,c2,c3⟩
 clear K c1 c2 c3
 go_cut [] (fun wx=>Fp w.heap.size M w wx)
 case first =>
  go_region_held3 (fun w'=>KDe w' w.heap.size d)
   (first
    | with_reducible exact l7 g
    | with_reducible exact l7 (dD _ g)
    | with_reducible exact l7 (dD _ (dD _ g))
    | with_reducible exact l7 (dD _ (dD _ (dD _ g)))
    | with_reducible exact l7 (dD _ (dD _ (dD _ (dD _ g))))
    | with_reducible exact (l8 g)
    | with_reducible exact (dD _ (l8 g))
    | with_reducible exact (dD _ (dD _ (l8 g)))
    | with_reducible exact (dD _ (dD _ (dD _ (l8 g))))
    | with_reducible exact (dD _ (dD _ (dD _ (dD _ (l8 g)))))
    | with_reducible exact g
    | with_reducible exact (dD _ g)
    | with_reducible exact (dD _ (dD _ g))
    | with_reducible exact (dD _ (dD _ (dD _ g)))
    | with_reducible exact (dD _ (dD _ (dD _ (dD _ g)))))
   (first
    | (go_at_call 145;(with_reducible refine (aq.out _).mono ?_);rintro e w2 ⟨rfl,H⟩;(first|(with_reducible have B:=kU H j.out)|(with_reducible have B:=kU H (kI _ j.out))|(with_reducible have B:=kU H (kI _ (kI _ j.out)))|(with_reducible have B:=kU H (kI _ (kI _ (kI _ j.out)))));have z:=H.size;(try simp only [World.size_alloc,vZ] at z);have G:=Hd H;have q:=Hd (aD H (l6 (by first|exact D.out|exact aW _ D.out|exact aW _ (aW _ D.out)|exact aW _ (aW _ (aW _ D.out)))));clear H g j R e1 e2 e3 f0 Z f2 f3 p1 p2 p3 p4 p5 p6;have j:=Hd B;obtain ⟨hB,K,c1,c2,c3,R,e1,e2,e3,f0,Z,f2,f3,hl⟩:=B;obtain ⟨p1,p2,p3,p4,p5,p6⟩:=yO (a:=w.heap.size) (b:=w2.heap.size) (by omega);clear hl hB;have g:KDe w2 w.heap.size d:=⟨K,c1,c2,c3⟩;clear K c1 c2 c3))
  all_goals
   go_wp2_with fail
   go_meet
   clear R e1 e2 e3 f0 Z f2 f3
   refine CL (by with_reducible first|exact (kF q.out)|exact (aW _ (kF q.out))|exact (aW _ (aW _ (kF q.out)))|exact (aW _ (aW _ (aW _ (kF q.out))))|exact (aW _ (aW _ (aW _ (aW _ (kF q.out)))))) (by repeat (first|(with_reducible refine jg ?_;(simp only [World.size_alloc,kW]);done)|with_reducible refine aW _ ?_|with_reducible refine oW _ ?_ (by simp only;omega)|with_reducible refine aD G.out ?_|with_reducible refine l6 ?_)) ?_ ?_ ?_ ?_ ?_ ?_
   ·repeat (first
     | (with_reducible refine jg ?_;(simp only [World.size_alloc,kW]);done)
     | with_reducible refine aW _ ?_
     | with_reducible refine oW _ ?_ (by simp only;omega)
     | with_reducible refine aD G.out ?_
     | with_reducible refine l6 ?_)
   ·repeat (first
     | (with_reducible refine jg ?_;(simp only [World.size_alloc,kW]);done)
     | with_reducible refine aW _ ?_
     | with_reducible refine oW _ ?_ (by simp only;omega)
     | with_reducible refine aD G.out ?_
     | with_reducible refine l6 ?_)
   ·repeat (first
     | (with_reducible refine jg ?_;(simp only [World.size_alloc,kW]);done)
     | with_reducible refine aW _ ?_
     | with_reducible refine oW _ ?_ (by simp only;omega)
     | with_reducible refine aD G.out ?_
     | with_reducible refine l6 ?_)
   all_goals first|omega|(with_reducible first|exact (kV j.out.1)|exact (aB (kV j.out.1) _)|exact (aB (aB (kV j.out.1) _) _)|exact (aB (aB (aB (kV j.out.1) _) _) _)|exact (aB (aB (aB (aB (kV j.out.1) _) _) _) _)|exact ((kV j.out.1)).drew|exact ((aB (kV j.out.1) _)).drew|exact ((aB (aB (kV j.out.1) _) _)).drew|exact ((aB (aB (aB (kV j.out.1) _) _) _)).drew|exact ((aB (aB (aB (aB (kV j.out.1) _) _) _) _)).drew)
 case rest =>
  clear R e1 e2 e3 f0 Z f2 f3 p1 p2 p3 p4 p5 p6 g
  obtain ⟨gm,gl,g0,g1,Y,⟨k1,k2,k3,k4⟩,⟨l1,l2,l3,l4⟩,⟨n1,n2,n3,n4,n5,n6⟩,ag⟩:=hcut
  have d0:=aF Y (k:=0) rfl
  have d1:=aF Y (k:=1) rfl
  have d2:=aF Y (k:=2) rfl
  have d3:=aF Y (k:=3) rfl
  have HP:=Hd (vY ag ⟨l1,l2,l3,l4⟩ ⟨n1,n2,n3,n4,n5,n6⟩ k1 k2 k3 k4)
  clear Y k1 k2 k3 k4 ag U I
  go_wp2_with fail
  exact bodyPost_ret (v := .agg #[.slice (some ⟨gm,0,none⟩) M M,.slice (some ⟨gl,0,none⟩) 2 2,.int .i64 0,.int .i64 0]) (by simp [results,Tryz.results67,go_sem,d0,d1,d2,d3]) rfl HP.out
theorem zt:(Tryz.prog.info? 110).map (fun i=>(i.zero,i.size,i.bytes))=some (some (.agg #[.slice none 0 0,.slice none 0 0,.int .i64 0,.int .i64 0]),4,64):=by kernel_rfl
theorem vU (d:Dev) (x:Lay) (SA LA OA BA CA PA RA:Option Addr) (sn sc ln lc on oc bn bc cn cc pn pc rn rc:Nat) (w:World) (h:lK w x SA LA OA BA CA PA RA sn sc ln lc on oc bn bc cn cc pn pc rn rc) (hl:EY x 1048576) (d8:pn<=pc) (a5:pc<=1048576) :
  Calls Tryz.prog 19 #[.agg (dv d),vR x SA LA OA BA CA PA RA sn sc ln lc on oc bn bc cn cc pn pc rn rc] w fun e w'=>∃S n c,e = .returned (.tuple #[.slice S n c,.bool (tb (jB d x))])/\aJ w w' [.cel (dW (cfgD d x)) (.slice S n c)]:=by
 obtain ⟨bw,bz,cu,cl⟩:=h.lens
 obtain ⟨c7,cw,dR⟩:=h.net.lens
 have eg:bn<=1048576:=by rw [←bw];exact hl.blocks
 have cW:cn<=1048576:=by rw [←bz];exact hl.conns
 obtain ⟨a6,dz,dC,b9,cS,dE,H1,bu⟩:=hd8 bw cu bz cl c7 cw h hl
 clear h hl bw bz cu cl c7 cw dR
 have D:=Hd (aB (aB (Below.refl w.heap.size w) (.cells (dv d) 36)) (.cells #[.int .i64 x.net.inputs,.slice SA sn sc,.slice LA ln lc,.slice OA on oc,.slice BA bn bc,.slice CA cn cc,.slice PA pn pc,.slice RA rn rc] 46))
 have h1:=aW (.cells #[.int .i64 x.net.inputs,.slice SA sn sc,.slice LA ln lc,.slice OA on oc,.slice BA bn bc,.slice CA cn cc,.slice PA pn pc,.slice RA rn rc] 46) (aI w (.cells (dv d) 36))
 have h2:=aI (w.alloc (.cells (dv d) 36)) (.cells #[.int .i64 x.net.inputs,.slice SA sn sc,.slice LA ln lc,.slice OA on oc,.slice BA bn bc,.slice CA cn cc,.slice PA pn pc,.slice RA rn rc] 46)
 simp only [World.size_alloc] at h2
 obtain ⟨aj,J⟩:=hd2 h1 h2
 clear h1 h2
 go_enter Tryz.func19,Tryz.ntmps19
 go_upto_region 1 with fail
 obtain ⟨gX,bG⟩:∃g,w.heap.size=g:=⟨_,rfl⟩
 obtain ⟨gY,bt⟩:∃g,gX+1=g:=⟨_,rfl⟩
 generalize (w.alloc (.cells (dv d) 36)).alloc (.cells #[.int .i64 x.net.inputs,.slice SA sn sc,.slice LA ln lc,.slice OA on oc,.slice BA bn bc,.slice CA cn cc,.slice PA pn pc,.slice RA rn rc] 46)=R at *
 rw [bG] at aj J
 rw [bt] at J
 (try rw [bG])
 (try rw [bt])
 clear bG bt
 obtain ⟨x0,x1,x2,x3,lx⟩:=cO (aD (Below.refl R.heap.size R) aj.out)
 obtain ⟨y0,y1,y2,y3,y4,y5,y6,y7,ly⟩:=mK (aD (Below.refl R.heap.size R) J.out)
 have Z:=Hd ((aJ.nil (Below.refl R.heap.size R)).pushNew 110 4)
 clear x0 x1 x2 x3 lx y0 y1 y2 y3 y4 y5 y6 y7 ly
 go_upto_region 2 with fail
 obtain ⟨g0,bv⟩:∃g,R.heap.size=g:=⟨_,rfl⟩
 rw [bv] at Z
 (try rw [bv])
 clear bv
 generalize R.alloc (.cells #[] 110)=w0 at *
 have ak:=Hd (aA D.out Z.out.bel)
 obtain ⟨x0,x1,x2,x3,lx⟩:=cO (aD Z.out.bel aj.out)
 obtain ⟨y0,y1,y2,y3,y4,y5,y6,y7,ly⟩:=mK (aD Z.out.bel J.out)
 go_wp2_with fail
 refine (vv d x SA LA OA BA CA PA RA sn sc ln lc on oc bn bc cn cc pn pc rn rc _ (H1.out.below ak.out).net (H1.out.below ak.out).bl (H1.out.below ak.out).cn (H1.out.below ak.out).pl (H1.out.below ak.out).ro eg cW d8 a5 bu.out.les bu.out.sinks bu.out.nodes).mono ?_
 by_cases hf:jB d x
 ·rw [ae hf]
  rintro _ w1 ⟨rfl,b1⟩
  have B1:=Hd (Z.out.below b1)
  have HF:=Hd hf
  have eN:bn<=64:=by rw [←a6.out];exact hf.pack.len
  have fD:ln<=400:=by rw [←dE.out];exact hf.pack.net.nlut
  have fo:rn<=1048576:=by rw [←b9.out,hf.routes.len,dC.out];exact cW
  have fg:=fZ hf.place.dev
  have eW:sn<=12:=by rw [←cS.out];exact hf.pack.net.nseq
  obtain ⟨hN,fr,fB⟩:=lD hf.place.dev
  have d5:=Hd (fun w=>vT d w hf.place.dev)
  have cM:=(oC hf.place.dev).2.2.1
  obtain ⟨aM,cE,db,cm,ct⟩:=info_parts zt
  have a4:=Hd (show Tryz.prog.info? 110=some aM/\aM.zero=some (.agg #[.slice none 0 0,.slice none 0 0,.int .i64 0,.int .i64 0])/\aM.size=4/\aM.bytes=64 from ⟨cE,db,cm,ct⟩)
  have el:Hid ((d.W * d.H).toNat=oM d):=rfl
  generalize oM d=N at *
  have a3:IntKind.i64.wrap (N:Int)=(N:Int):=IntWalk.i64_in _ (by omega)
  clear b1 hf cE db cm ct x0 x1 x2 x3 lx y0 y1 y2 y3 y4 y5 y6 y7 ly
  have G:Hid (aJ R w1 [.cel (dW (List.replicate 0 (emT d))) (.slice (some ⟨g0,0,none⟩) 0 0)]):=B1
  go_wp2_with fail
  go_loopw [6,7] (fun v i wr=>∃(k:Nat) (A:Option Addr) (c:Nat),k<=N/\i = .int .i64 (k:Int)/\v = .slice A k c/\aJ R wr [.cel (dW (List.replicate k (emT d))) (.slice A k c)]) (fun _ i _=>N - (intOf i).toNat)
  ·exact ⟨0,some ⟨g0,0,none⟩,0,by omega,rfl,rfl,G.out⟩
  obtain ⟨k,A,c,hk,rfl,rfl,hs⟩:=hrel
  have HS:=Hd hs
  clear hs
  obtain ⟨x0,x1,x2,x3,lx⟩:=cO (aD HS.out.bel aj.out)
  by_cases c3:k<N
  ·have bP:=dT (by omega:k<N)
   go_wp2_with fail
   refine (d5.out _).mono ?_
   rintro _ w5 h5
   obtain ⟨v0,v1,rfl,s5⟩:=wu h5 cM
   have dY:=Hd (HS.out.join s5)
   clear h5 s5 x0 x1 x2 x3 lx
   go_wp2_with (at_builtin;refine gQ rfl _ _ 58 110 rfl aM _ 4 64 Tryz.underlying58 a4.out.1 a4.out.2.1 a4.out.2.2.1 a4.out.2.2.2 rfl (by decide) (by decide) _ (dY.out.alloc _) 0 1 (by decide) k c _ A ((List.replicate k (emT d)).flatMap bC.cells) _ #[v0,v1,.int .i64 0,.int .i64 0] _ rfl rfl rfl rfl (aI _ _) rfl (by omega) ?_;intro g9 fd w9 S9 fA)
   go_roundw
   ·exact ⟨k+1,_,_,by omega,by go_num,rfl,by rw [zO];exact S9.sub (List.Sublist.cons_cons _ (List.nil_sublist _))⟩
   simp [intOf];omega
  have bb:k=N:=by omega
  subst bb
  have bP:decide ((k:Int)<(k:Int))=false:=by simp
  obtain ⟨N,rfl⟩:∃y,y=k:=⟨k,rfl⟩
  obtain ⟨gT,hA,_⟩:=oJ HS.out 0 rfl (t:=0) (by rw [List.length_replicate];omega) 2 (by decide)
  have dy:=Hd hA
  clear hA hk
  obtain rfl:=dy.out
  go_upto_region 8 with fail
  go_wp2_with fail
  refine (eH d _ (by have:=ay HF.out.place.dev;omega) (by have:=ay HF.out.place.dev;omega)).mono ?_
  rintro _ w3 ⟨rfl,b3⟩
  have bO:Hid (aJ R w3 [.cel (dW (jI d x 0)) (.slice (some ⟨gT,0,none⟩) N c)]):=by show aJ _ _ _;unfold jI;rw [el.out];exact HS.out.below b3
  obtain ⟨p,hp⟩:∃p,aV d=p:=⟨_,rfl⟩
  (try rw [hp])
  have ey:=Hd hp
  clear hp b3 HS x0 x1 x2 x3 lx
  go_wp2_with fail
  go_loopw [9] (fun i wr=>∃q:Nat,q<=rn/\i = .int .i64 (q:Int)/\aJ R wr [.cel (dW (jI d x q)) (.slice (some ⟨gT,0,none⟩) N c)]) (fun i _=>rn - (intOf i).toNat)
  ·exact ⟨0,by omega,rfl,bO.out⟩
  obtain ⟨q,hq,rfl,hs⟩:=hrel
  have G:=Hd hs
  clear hs
  obtain ⟨-,-,-,-,-,-,-,y7,ly⟩:=mK (aD G.out.bel J.out)
  by_cases dL:q<rn
  ·have dI:=dT (by omega:q<rn)
   have b6:q<x.routes.length:=by rw [b9.out];exact dL
   obtain ⟨gq,oq,NA,nm,nc,FA,fm,fc,cI,b5,c0,c1,rN,rF⟩:=H1.out.ro.rou (k:=q) b6
   have au:=(HF.out.routes.fit q (by rw [←HF.out.routes.len];exact b6)).2
   have aq:=Hd (aA D.out G.out.bel)
   rw [←aq.out.cell (p:=⟨gq,oq+q * 2,none⟩) b5] at c0
   rw [←aq.out.cell (p:=⟨gq,oq+q * 2+1,none⟩) b5] at c1
   have ds:=aK aq.out b5
   have bB:=(qd HF.out.routes HF.out.place.dev q (by omega)).1
   obtain ⟨r,hr⟩:∃r,wW x q=r:=⟨_,rfl⟩
   have B:jI d x (q+1)=kC d r (jI d x q) r.nodes.length:=by rw [←hr];rfl
   rw [show x.routes[q]?.getD Rou.zero=r from hr] at rN rF au
   obtain ⟨cG,ax⟩:=hd2 au rN.ints
   have fa:nm<=1000:=by rw [←ax.out.1];have:=au.len.2;omega
   have cP:=Hd rF.ints
   have dd:1<=nm:=by rw [←ax.out.1];exact au.len.1
   have c9:=Hd (⟨fun m h0 hm=>rO au h0 hm⟩:Es d r)
   obtain ⟨TS,c6⟩:∃y,jI d x q=y:=⟨_,rfl⟩
   rw [c6] at bB B G
   obtain ⟨dA,ew,ej⟩:=hd3 bB B cI
   clear rN rF au hr c6 bB B cI b6
   obtain rfl:=ej.out
   obtain ⟨q0,q1⟩:=ib (by omega:q<rn)
   have b8:=G.out.pushBlk #[.slice NA nm nc,.slice FA fm fc] 114
   go_upto_region 14 with fail
   obtain ⟨gr,bA⟩:∃g,wr.heap.size=g:=⟨_,rfl⟩
   rw [bA] at b8
   (try rw [bA])
   have bO:=Hd b8
   clear bA b8 c0 c1 ds aq G y7 ly
   generalize wr.alloc (.cells #[.slice NA nm nc,.slice FA fm fc] 114)=W1 at *
   go_loopw [11] (fun i wr=>∃j:Nat,1<=j/\j<=nm/\i = .int .i64 (j:Int)/\aJ R wr [.cel (dW (kC d r TS j)) (.slice (some ⟨gT,0,none⟩) N c),.blk gr #[.slice NA nm nc,.slice FA fm fc] 114]) (fun i _=>nm - (intOf i).toNat)
   ·exact ⟨1,by omega,dd,rfl,by rw [show kC d r TS 1=TS from if_pos rfl];exact bO.out⟩
   obtain ⟨j,fb,hj,rfl,hs⟩:=hrel
   have HS:=Hd hs
   clear hs
   obtain ⟨r0,lr⟩:=wO ((HS.out.blk 1 rfl).1)
   by_cases bZ:j<nm
   ·have dx:=dT (by omega:j<nm)
    have cJ:j<r.nodes.length:=by rw [ax.out.1];exact bZ
    obtain ⟨bN,oN,cj,bk,aZ⟩:=ax.out.2 (by omega)
    have bR:=aZ j bZ
    have cB:=((aA D.out HS.out.bel).cell (p:=⟨bN,oN+j,none⟩) bk).trans (aZ j bZ)
    have ez:=aK (aA D.out HS.out.bel) bk
    obtain ⟨dQ,dt⟩:=hd2 aZ cj
    clear aZ cj
    obtain rfl:=dt.out
    obtain ⟨j0,j1⟩:=ib (by omega:j<nm)
    obtain ⟨av,bq⟩:=c9.out.nod j (by omega) cJ
    obtain ⟨a0,a1,a2,a3⟩:=um av
    have aN:fP d (r.nodes[j]?.getD 0)=true:=by unfold bQ at av;simp only [Bool.and_eq_true] at av;exact av.1
    obtain ⟨_,_,_,_,_,b0,b1⟩:=il aN
    have a5:=eP HF.out.place.dev
    have U:=(cG.out.step j (by omega) cJ).1
    have aY:=(sI HF.out.place.dev c9.out dA.out j (by omega)).1
    have B:kC d r TS (j+1)=Ci d r j (kC d r TS j):=if_neg (by omega)
    unfold Ci at B
    have Q:=aY.mux ((r.nodes[j]?.getD 0) / aV d).toNat (by rw [aY.len];omega)
    have bK:=aY.len
    have cx:r.from_.length=fm:=cP.out.1
    have cv:fm=nm:=by rw [←cx,cG.out.same,ax.out.1]
    obtain ⟨bF,oF,co,dV,dc⟩:=cP.out.2 (by omega)
    have cf:=dc j (by omega)
    obtain ⟨F,hF⟩:∃F:Nat,r.from_[j]?.getD 0=(F:Int):=⟨_,(Int.toNat_of_nonneg U.1).symm⟩
    rw [hF] at cf U B
    rw [Int.toNat_natCast] at B
    have cs:=dQ.out F (by omega)
    obtain ⟨n,hn⟩:∃n,r.nodes[j]?.getD 0=n:=⟨_,rfl⟩
    obtain ⟨S,hS⟩:∃n,r.nodes[F]?.getD 0=n:=⟨_,rfl⟩
    rw [hn] at bR cB B a0 a1 a2 a3 b0 b1 Q av bq aN
    rw [hS] at B cs
    obtain ⟨TJ,cy⟩:∃y,kC d r TS j=y:=⟨_,rfl⟩
    rw [cy] at B Q bK HS
    obtain ⟨T,u⟩:∃T:Nat,n / aV d=(T:Int):=⟨_,(Int.toNat_of_nonneg a0).symm⟩
    obtain ⟨K,hK⟩:∃K:Nat,n % aV d=(K:Int):=⟨_,(Int.toNat_of_nonneg b0).symm⟩
    obtain ⟨KI,bY⟩:∃K:Nat,Ab d n=(K:Int):=⟨_,(Int.toNat_of_nonneg a2).symm⟩
    have aX:(KI:Int)=if 7<=(K:Int) then (K:Int) - 2 else (K:Int):=by rw [←bY,←hK];rfl
    rw [u] at B Q a1
    rw [hK] at b1
    rw [bY] at B a3
    rw [Int.toNat_natCast] at B Q
    rw [Int.toNat_natCast] at B
    have Y:=Hd B
    have cb:=(il aN).2.1
    have dS:=(il aN).2.2.1
    rw [ey.out] at u hK a5 b1
    have e1:n.tmod p=(K:Int):=by rw [Int.tmod_eq_emod_of_nonneg cb,hK]
    have e3:IntKind.i64.wrap (n.tdiv p)=(T:Int):=by rw [IntWalk.i64_quo _ _ ⟨cb,by omega,by omega⟩,u]
    have e2:¬p=0:=by omega
    have ek:Hid (∀v,Below w.heap.size w v→v.cell? ⟨bN,oN+j,none⟩=some (.int .i64 n)):=fun v hv=>(hv.cell (p:=⟨bN,oN+j,none⟩) bk).trans bR
    have aE:Hid (T<TJ.length):=by show _<_;rw [bK];omega
    have cD:Hid (KI<(tAt TJ T).mux.length):=by show _<_;rw [Q];omega
    have dK:Hid (∀v,Below w.heap.size w v→v.cell? ⟨bF,oF+j,none⟩=some (.int .i64 (F:Int))):=fun v hv=>(hv.cell (p:=⟨bF,oF+j,none⟩) dV).trans cf
    have eh:Hid (∀v,Below w.heap.size w v→v.cell? ⟨bN,oN+F,none⟩=some (.int .i64 S)):=fun v hv=>(hv.cell (p:=⟨bN,oN+F,none⟩) bk).trans cs
    have eb:=Hd co
    have fI:T<N:=by omega
    clear B Q bK dc cf cs hn hS cy u bY av bq aN a0 a1 a2 a3 b0 aY hF cx co hK
    obtain rfl:=eb.out
    obtain ⟨t0,t1⟩:=ib (by omega:T<N)
    obtain ⟨f0,f1⟩:=ib (by omega:F<nm)
    have f2:F<nm:=by omega
    have j2:(j:Int)<(fm:Int):=by omega
    have j3:j<fm:=by omega
    have k9:(K:Int)<100:=by omega
    have e4:IntKind.i64.wrap (K:Int)=(K:Int):=IntWalk.i64_in _ (by omega)
    clear a5 b1 cv bR cb dS
    go_upto_if 64 with fail
    clear cB ez r0 lr
    go_cut [12] (fun k w'=>k = .int .i64 (KI:Int)/\wr=w')
    case first =>
     by_cases h7:(7:Int)<=(K:Int)
     ·have d7:decide ((K:Int)≥7)=true:=decide_eq_true h7
      go_upto_region 19 with fail
      go_meet
      exact ⟨by rw [aX,if_pos (by omega)],rfl⟩
     have d7:decide ((K:Int)≥7)=false:=decide_eq_false h7
     go_upto_region 19 with fail
     go_meet
     exact ⟨by rw [aX,if_neg (by omega)],rfl⟩
    obtain ⟨rfl,rfl⟩:=hcut
    clear aX
    obtain ⟨wT,V⟩:∃y,wr.drew=y:=⟨_,rfl⟩
    have HT:Hid (aJ R wT [.cel (dW (TJ)) (.slice (some ⟨gT,0,none⟩) N c),.blk gr #[.slice (some ⟨bN,oN,none⟩) nm nc,.slice (some ⟨bF,oF,none⟩) fm fc] 114]):=Hd (by rw [←V];exact HS.out.drew)
    obtain ⟨bf,sb,ma,mb,hA,a8,cT,ha,bo⟩:=Bn HT.out 0 rfl (t:=T) aE.out (k:=KI) cD.out
    injection hA with hA
    injection hA with hA
    subst hA
    obtain ⟨cN,ed⟩:=hd2 bo ha
    clear bo ha
    have fC:KI<ma:=by rw [ed.out];exact cD.out
    have aX:(KI:Int)<(ma:Int):=by omega
    have eZ:(0:Int)<=(KI:Int):=by omega
    have I:Hid (∀(v:World),Below wT.heap.size wT v→aJ R v [.cel (dW (TJ)) (.slice (some ⟨gT,0,none⟩) N c),.blk gr #[.slice (some ⟨bN,oN,none⟩) nm nc,.slice (some ⟨bF,oF,none⟩) fm fc] 114]→(v.cell? ⟨gT,T * 4,none⟩=some (.slice (some ⟨sb,0,none⟩) ma mb)/\KD v gX d (v.cell? ⟨gr,0,none⟩=some (.slice (some ⟨bN,oN,none⟩) nm nc)/\v.cell? ⟨gr,1,none⟩=some (.slice (some ⟨bF,oF,none⟩) fm fc)/\v.cell? ⟨bF,oF+j,none⟩=some (.int .i64 (F:Int))/\v.cell? ⟨bN,oN+F,none⟩=some (.int .i64 S)/\v.cell? ⟨bN,oN+j,none⟩=some (.int .i64 n)))):=Hd fun v hv h=>⟨(hv.cell (p:=⟨gT,T * 4,none⟩) a8).trans cT,aF (k:=0) (aD h.bel aj.out) rfl,aF (k:=1) (aD h.bel aj.out) rfl,aF (k:=2) (aD h.bel aj.out) rfl,aF (k:=3) (aD h.bel aj.out) rfl,aF (k:=0) (h.blk 1 rfl).1 rfl,aF (k:=1) (h.blk 1 rfl).1 rfl,dK.out _ (aA D.out h.bel),eh.out _ (aA D.out h.bel),ek.out _ (aA D.out h.bel)⟩
    have a7:=HT.out.bel
    go_upto_region 19 with fail
    refine wp_region_noPanic ?_
    have al:=I.out _ (Below.refl _ _) HT.out
    rw [←V] at al
    refine iR 29 (fun w'=>w'.cell? ⟨gT,T * 4,none⟩=some (.slice (some ⟨sb,0,none⟩) ma mb)/\KD w' gX d (w'.cell? ⟨gr,0,none⟩=some (.slice (some ⟨bN,oN,none⟩) nm nc)/\w'.cell? ⟨gr,1,none⟩=some (.slice (some ⟨bF,oF,none⟩) fm fc)/\w'.cell? ⟨bF,oF+j,none⟩=some (.int .i64 (F:Int))/\w'.cell? ⟨bN,oN+F,none⟩=some (.int .i64 S)/\w'.cell? ⟨bN,oN+j,none⟩=some (.int .i64 n))) (al) (fun u z=>?_)
    rw [V] at z ⊢
    refine onT u 0 opA z ?_
    refine onT u 1 (opB opA) z ?_
    refine onT u 2 (opB (opB opA)) z ?_
    refine onT u 3 (opB (opB (opB opA))) z ?_
    refine onT u 4 (opC opA) z ?_
    refine onT u 5 (opC (opB opA)) z ?_
    refine onT u 6 (opC (opB (opB opA))) z ?_
    refine onT u 7 (opC (opB (opB (opB opA)))) z ?_
    refine onT u 8 (opC (opC opA)) z ?_
    refine onT u 9 (opC (opC (opB opA))) z ?_
    refine onT u 10 (opC (opC (opB (opB opA)))) z ?_
    refine onT u 11 (opC (opC (opB (opB (opB opA))))) z ?_
    refine onT u 12 (opC (opC (opC opA))) z ?_
    refine onT u 13 (opC (opC (opC (opB opA)))) z ?_
    refine onT u 14 (opC (opC (opC (opB (opB opA))))) z ?_
    refine onT u 15 (opC (opC (opC (opB (opB (opB opA)))))) z ?_
    refine onT u 16 (opD opA) z ?_
    refine onT u 17 (opD (opB opA)) z ?_
    refine onT u 18 (opD (opB (opB opA))) z ?_
    refine onT u 19 (opD (opB (opB (opB opA)))) z ?_
    refine onT u 20 (opD (opC opA)) z ?_
    refine onT u 21 (opD (opC (opB opA))) z ?_
    refine onT u 22 (opD (opC (opB (opB opA)))) z ?_
    refine onT u 23 (opD (opC (opB (opB (opB opA))))) z ?_
    refine onT u 24 (opD (opC (opC opA))) z ?_
    refine onT u 25 (opD (opC (opC (opB opA)))) z ?_
    refine onT u 26 (opD (opC (opC (opB (opB opA))))) z ?_
    refine uF u 27 (opD (opC (opC (opB (opB (opB opA)))))) (fun K hK=>?_)
    go_simp
    go_at_call 69
    with_reducible refine (uk d n S _).mono ?_
    rintro _ w7 ⟨rfl,b7⟩
    have ca:=Hd (HT.out.below b7)
    have B7:=Hd b7
    clear b7
    refine hK.out _ _ (I.out _ B7.out ca.out) (fun z=>?_)
    clear hK K
    try simp only [Act.put,List.setIfInBounds_toArray,List.set_cons_zero,List.set_cons_succ]
    refine onT u 28 (opD (opC (opC (opC opA)))) z ?_
    obtain ⟨q8,⟨x8,c8⟩,f8,hu⟩:=cN.out _ B7.out
    refine tF u 29 (opD (opC (opC (opC (opB opA))))) ?_
    go_wp2_with fail
    refine NoPanic.normal ?_
    have ad:=Hd (hu (rP (fe d n) S))
    go_wp2_with fail
    go_roundw
    ·exact ⟨j+1,by omega,by omega,by go_num,by rw [Y.out];exact ad.out⟩
    simp [intOf];omega
   have ck:j=nm:=by omega
   have dx:=dF (by omega:nm<=j)
   have cz:Hid (jI d x (q+1)=kC d r TS j):=by show _=_;rw [ew.out,ax.out.1,ck]
   clear ck
   go_wp2_with fail
   go_roundw
   ·exact ⟨q+1,by omega,by go_num,by rw [cz.out];exact HS.out.sub (List.Sublist.cons_cons _ (List.nil_sublist _))⟩
   simp [intOf];omega
  have cV:q=rn:=by omega
  have dI:=dF (by omega:rn<=q)
  have d4:Hid (aJ R wr [.cel (dW (fH d x 0)) (.slice (some ⟨gT,0,none⟩) N c)]):=by show aJ _ _ _;unfold fH;rw [b9.out,←cV];exact G.out
  clear cV G
  obtain ⟨wb,rfl⟩:∃y,y=wr:=⟨wr,rfl⟩
  go_wp2_with fail
  clear y7 ly
  go_loopw [13] (fun i wr=>∃k:Nat,k<=bn/\i = .int .i64 (k:Int)/\aJ R wr [.cel (dW (fH d x k)) (.slice (some ⟨gT,0,none⟩) N c)]) (fun i _=>bn - (intOf i).toNat)
  ·exact ⟨0,by omega,rfl,d4.out⟩
  obtain ⟨k,hk,rfl,hs⟩:=hrel
  have G:=Hd hs
  clear hs
  obtain ⟨-,y1,-,-,y4,-,y6,ly⟩:=F4 (aD G.out.bel J.out)
  by_cases c3:k<bn
  ·have bP:=dT (by omega:k<bn)
   have Q:k<x.blocks.length:=by rw [a6.out];exact c3
   obtain ⟨gb,ob,EA,en,ec,cq,bg,c0,c1,c2,r2⟩:=H1.out.bl.blk (k:=k) Q
   have az:dM x.net (oH x k):=by unfold oH;rw [List.getElem?_eq_getElem Q];exact HF.out.pack.fit _ (List.getElem_mem Q)
   obtain ⟨b2,ar⟩:=qf HF.out k (by omega)
   have ar:=ar k (Nat.le_refl _) Q
   obtain ⟨p0,p1,p2⟩:=pq HF.out.place Q
   have B:fH d x (k+1)=yz x k (fH d x k):=rfl
   unfold yz at B
   obtain ⟨T,u⟩:∃T,sG x k=T:=⟨_,rfl⟩
   have cQ:x.place[k]?.getD 0=(T:Int):=by rw [←u];exact (Int.toNat_of_nonneg p0).symm
   rw [u] at B ar p2
   obtain ⟨TB,cR⟩:∃y,fH d x k=y:=⟨_,rfl⟩
   rw [cR] at b2 ar B G
   have br:=b2.len
   have d9:pn=bn:=by rw [←dz.out,←a6.out,HF.out.place.same,List.length_map]
   obtain ⟨bp,op,da,cr,cH⟩:=H1.out.pl.ints.2 (by omega)
   have cp:=cH k (by omega)
   rw [cQ] at cp
   have dw:Hid (∀v,Below w.heap.size w v→v.cell? ⟨bp,op+k,none⟩=some (.int .i64 (T:Int))):=fun v hv=>(hv.cell (p:=⟨bp,op+k,none⟩) cr).trans cp
   obtain ⟨bx,bE⟩:∃b,oH x k=b:=⟨_,rfl⟩
   rw [bE] at az B
   rw [show x.blocks[k]?.getD Blk.zero=bx from bE] at c0 c1 r2
   have cA:=nU az
   have aO:=lT az
   obtain ⟨kd,it,es⟩:=bx
   simp only at c0 c1 aO B
   have HE:=Hd (show RdC w w.heap.size (cZ es) (.slice EA en ec) from r2)
   have du:Hid (es.length=en):=HE.out.esN
   have ex:en<=2:=by rw [←du.out];exact aO
   have ef:=Hd (show ∀e∈es,dG x.net e from cA)
   obtain ⟨Y,fG⟩:=hd2 B ar
   have aE:Hid (T<TB.length):=by show _<_;rw [br];exact p2
   have fv:T<N:=by omega
   obtain ⟨dU,ei⟩:=hd2 cq da
   have cY:Hid (∀v,Below w.heap.size w v→v.cell? ⟨gb,ob+k * 3,none⟩=some (.int .i64 kd)):=fun v hv=>(hv.cell (p:=⟨gb,ob+k * 3,none⟩) bg).trans c0
   have cX:Hid (∀v,Below w.heap.size w v→v.cell? ⟨gb,ob+k * 3+1,none⟩=some (.int .i64 it)):=fun v hv=>(hv.cell (p:=⟨gb,ob+k * 3+1,none⟩) bg).trans c1
   have dZ:Hid (∀v,Below w.heap.size w v→v.cell? ⟨gb,ob+k * 3+2,none⟩=some (.slice EA en ec)):=fun v hv=>(hv.cell (p:=⟨gb,ob+k * 3+2,none⟩) bg).trans c2
   clear c0 c1 c2 bE cA aO r2 cq B Q ar b2 br cR u cQ p0 p1 p2 cH cp da
   obtain rfl:=dU.out
   obtain rfl:=ei.out
   obtain ⟨i0,i1⟩:=ib (by omega:k<bn)
   have i2:(k:Int)<(pn:Int):=by omega
   have i3:k<pn:=by omega
   obtain ⟨t0,t1⟩:=ib (by omega:T<N)
   clear d9
   have cp:=dw.out _ (aA D.out G.out.bel)
   have cK:=aK (aA D.out G.out.bel) cr
   have c0:=cY.out _ (aA D.out G.out.bel)
   have c4:=aK (aA D.out G.out.bel) bg
   by_cases bd:kd=0
   ·subst bd
    obtain ⟨bf,hA,a8,⟨xT,cT⟩,fT,U⟩:=oJ G.out 0 rfl (t:=T) aE.out 2 (by decide)
    injection hA with hA
    injection hA with hA
    subst hA
    have ad:=Hd (U (1))
    have ao:Hid (fH d x (k+1)=setPad TB T (1)):=by show _=_;rw [Y.out];rfl
    clear U
    go_wp2_with fail
    go_roundw
    ·exact ⟨k+1,by omega,by go_num,by rw [ao.out];exact ad.out⟩
    simp [intOf];omega
   have fJ:(kd==0)=false:=by simp [bd]
   rw [if_neg bd] at Y
   by_cases bj:kd=1
   ·subst bj
    obtain ⟨bf,hA,a8,⟨xT,cT⟩,fT,U⟩:=oJ G.out 0 rfl (t:=T) aE.out 2 (by decide)
    injection hA with hA
    injection hA with hA
    subst hA
    have ad:=Hd (U (2))
    have ao:Hid (fH d x (k+1)=setPad TB T (2)):=by show _=_;rw [Y.out];rfl
    clear U
    go_wp2_with fail
    go_roundw
    ·exact ⟨k+1,by omega,by go_num,by rw [ao.out];exact ad.out⟩
    simp [intOf];omega
   have fx:(kd==1)=false:=by simp [bj]
   rw [if_neg bj] at Y
   by_cases be:kd=2
   ·subst be
    have ev:0<=it/\it<(x.net.seqs.length:Int):=jW.1 az.1
    obtain ⟨X,hX⟩:∃X:Nat,it=(X:Int):=⟨it.toNat,by omega⟩
    subst hX
    have cL:X<x.net.seqs.length:=by omega
    have fM:X<sn:=by rw [←cS.out];exact cL
    obtain ⟨sb,so,IA,im,ic,c5,d0,_,d1,_,_⟩:=H1.out.net.sq.sq' (k:=X) cL
    have d3:=Hd c5
    rw [Int.toNat_natCast] at Y
    generalize (x.net.seqs[X]?.getD Sq.zero).init=ii at *
    have dX:Hid (∀v,Below w.heap.size w v→v.cell? ⟨sb,so+X * 3+1,none⟩=some (.int .i64 ii)):=fun v hv=>(hv.cell (p:=⟨sb,so+X * 3+1,none⟩) d0).trans d1
    clear c5 ev d1
    obtain rfl:=d3.out
    obtain ⟨fE,fk⟩:=ib (by omega:X<sn)
    go_upto_region 31 with fail
    clear cp cK c0 c4 y1 y4 y6 ly
    obtain ⟨wT,V⟩:∃y,wr.drew=y:=⟨_,rfl⟩
    have HT:Hid (aJ R wT [.cel (dW (TB)) (.slice (some ⟨gT,0,none⟩) N c)]):=Hd (by rw [←V];exact G.out.drew)
    have I:Hid (∀(v:World),Below wT.heap.size wT v→aJ R v [.cel (dW (TB)) (.slice (some ⟨gT,0,none⟩) N c)]→(v.cell? ⟨gY,1,none⟩=some (.slice (some ⟨sb,so,none⟩) sn sc)/\v.cell? ⟨gY,4,none⟩=some (.slice (some ⟨gb,ob,none⟩) bn bc)/\v.cell? ⟨gb,ob+k * 3+1,none⟩=some (.int .i64 (X:Int))/\v.cell? ⟨sb,so+X * 3+1,none⟩=some (.int .i64 ii))):=Hd fun v hv h=>⟨aF (k:=1) (aD h.bel J.out) rfl,aF (k:=4) (aD h.bel J.out) rfl,cX.out _ (aA D.out h.bel),dX.out _ (aA D.out h.bel)⟩
    have a7:=HT.out.bel
    refine wp_region_noPanic ?_
    have al:=I.out _ (Below.refl _ _) HT.out
    rw [←V] at al
    refine iR 14 (fun w'=>w'.cell? ⟨gY,1,none⟩=some (.slice (some ⟨sb,so,none⟩) sn sc)/\w'.cell? ⟨gY,4,none⟩=some (.slice (some ⟨gb,ob,none⟩) bn bc)/\w'.cell? ⟨gb,ob+k * 3+1,none⟩=some (.int .i64 (X:Int))/\w'.cell? ⟨sb,so+X * 3+1,none⟩=some (.int .i64 ii)) (al) (fun u z=>?_)
    rw [V] at z ⊢
    refine onT u 0 opA z ?_
    refine onT u 1 (opB opA) z ?_
    refine onT u 2 (opB (opB opA)) z ?_
    refine onT u 3 (opB (opB (opB opA))) z ?_
    refine onT u 4 (opC opA) z ?_
    refine onT u 5 (opC (opB opA)) z ?_
    refine onT u 6 (opC (opB (opB opA))) z ?_
    refine onT u 7 (opC (opB (opB (opB opA)))) z ?_
    refine onT u 8 (opC (opC opA)) z ?_
    refine onT u 9 (opC (opC (opB opA))) z ?_
    refine onT u 10 (opC (opC (opB (opB opA)))) z ?_
    refine onT u 11 (opC (opC (opB (opB (opB opA))))) z ?_
    refine onT u 12 (opC (opC (opC opA))) z ?_
    refine onT u 13 (opC (opC (opC (opB opA)))) z ?_
    refine CJ u 14 (opC (opC (opC (opB (opB opA))))) ?_
    refine CJ u 15 (opC (opC (opC (opB (opB (opB opA)))))) ?_
    obtain ⟨bf,hA,a8,⟨xT,cT⟩,fT,U⟩:=oJ HT.out 0 rfl (t:=T) aE.out 3 (by decide)
    injection hA with hA
    injection hA with hA
    subst hA
    refine tF u 16 (opD opA) ?_
    go_wp2_with fail
    refine NoPanic.normal ?_
    have ad:=Hd (U ii)
    have ao:Hid (fH d x (k+1)=setRam TB T ii):=by show _=_;rw [Y.out];rfl
    clear U
    go_wp2_with fail
    go_roundw
    ·exact ⟨k+1,by omega,by go_num,by rw [ao.out];exact ad.out⟩
    simp [intOf];omega
   have ft:(kd==2)=false:=by simp [be]
   rw [if_neg be] at Y
   have eo:kd=3:=by have:=iL az.1;omega
   subst eo
   clear bd bj be az
   go_upto_region 25 with fail
   clear cp cK c0 c4 y1 y4 y6 ly
   obtain ⟨wT,V⟩:∃y,wr.drew=y:=⟨_,rfl⟩
   have HT:Hid (aJ R wT [.cel (dW (TB)) (.slice (some ⟨gT,0,none⟩) N c)]):=Hd (by rw [←V];exact G.out.drew)
   have I:Hid (∀(v:World),Below wT.heap.size wT v→aJ R v [.cel (dW (TB)) (.slice (some ⟨gT,0,none⟩) N c)]→(K5 v gY (.int .i64 x.net.inputs) (.slice SA sn sc) (.slice LA ln lc) (.slice OA on oc) (.slice (some ⟨gb,ob,none⟩) bn bc) (v.cell? ⟨gb,ob+k * 3,none⟩=some (.int .i64 3)/\v.cell? ⟨gb,ob+k * 3+1,none⟩=some (.int .i64 it)/\v.cell? ⟨gb,ob+k * 3+2,none⟩=some (.slice EA en ec)))):=Hd fun v hv h=>⟨aF (k:=0) (aD h.bel J.out) rfl,aF (k:=1) (aD h.bel J.out) rfl,aF (k:=2) (aD h.bel J.out) rfl,aF (k:=3) (aD h.bel J.out) rfl,aF (k:=4) (aD h.bel J.out) rfl,cY.out _ (aA D.out h.bel),cX.out _ (aA D.out h.bel),dZ.out _ (aA D.out h.bel)⟩
   have a7:=HT.out.bel
   refine wp_region_noPanic ?_
   have al:=I.out _ (Below.refl _ _) HT.out
   rw [←V] at al
   refine iR 10 (fun w'=>K5 w' gY (.int .i64 x.net.inputs) (.slice SA sn sc) (.slice LA ln lc) (.slice OA on oc) (.slice (some ⟨gb,ob,none⟩) bn bc) (w'.cell? ⟨gb,ob+k * 3,none⟩=some (.int .i64 3)/\w'.cell? ⟨gb,ob+k * 3+1,none⟩=some (.int .i64 it)/\w'.cell? ⟨gb,ob+k * 3+2,none⟩=some (.slice EA en ec))) (al) (fun u z=>?_)
   rw [V] at z ⊢
   refine onT u 0 opA z ?_
   refine onT u 1 (opB opA) z ?_
   refine onT u 2 (opB (opB opA)) z ?_
   refine onT u 3 (opB (opB (opB opA))) z ?_
   refine onT u 4 (opC opA) z ?_
   refine onT u 5 (opC (opB opA)) z ?_
   refine onT u 6 (opC (opB (opB opA))) z ?_
   refine onT u 7 (opC (opB (opB (opB opA)))) z ?_
   refine onT u 8 (opC (opC opA)) z ?_
   refine uF u 9 (opC (opC (opB opA))) (fun K hK=>?_)
   go_simp
   go_at_call 70
   with_reducible refine (yJ x.net SA LA OA sn sc ln lc on oc it es EA en ec _ (H1.out.net.below (aA D.out a7)) HF.out.pack.net (HE.out.below (aA D.out a7)) ef.out ex).mono ?_
   rintro _ w7 ⟨Sx,mx,qx,rfl,s7⟩
   have ca:=Hd (HT.out.below s7.bel)
   have B7:=Hd s7.bel
   have S7:=Hd (HT.out.join s7)
   clear s7
   refine hK.out _ _ (I.out _ B7.out ca.out) (fun z=>?_)
   clear hK K
   try simp only [Act.put,List.setIfInBounds_toArray,List.set_cons_zero,List.set_cons_succ]
   refine CJ u 10 (opC (opC (opB (opB opA)))) ?_
   refine CJ u 11 (opC (opC (opB (opB (opB opA))))) ?_
   obtain ⟨bf,hA,q8,⟨x8,c8⟩,f8,hu⟩:=Ez S7.out 0 1 (by decide) rfl (t:=T) aE.out rfl
   injection hA with hA
   injection hA with hA
   subst hA
   refine tF u 12 (opC (opC (opC opA))) ?_
   go_wp2_with fail
   refine NoPanic.normal ?_
   have ad:=Hd hu
   have ao:Hid (fH d x (k+1)=setLes TB T (mE x.net es es.length)):=by show _=_;exact Y.out
   clear hu
   go_wp2_with fail
   go_roundw
   ·exact ⟨k+1,by omega,by go_num,by rw [ao.out];exact ad.out.sub (List.Sublist.cons_cons _ (List.nil_sublist _))⟩
   simp [intOf];omega
  have bb:k=bn:=by omega
  have bP:=dF (by omega:bn<=k)
  have HC:Hid (cfgD d x=fH d x k):=by show _=_;rw [show cfgD d x=ql d x from if_pos HF.out];unfold ql;rw [a6.out,bb]
  have HR:Hid (aJ w wr [.cel (dW (cfgD d x)) (.slice (some ⟨gT,0,none⟩) N c)]):=by
   have h1:=G.out.lowerC D.out (lo:=R.heap.size) (hi:=R.heap.size) D.out.size (Nat.le_refl _) (Chg.refl' _ _ _)
   show aJ _ _ _
   rw [HC.out]
   exact h1
  clear bb
  go_wp2_with fail
  go_ret2
  exact ⟨some ⟨gT,0,none⟩,N,c,by rw [ae HF.out];rfl,HR.out⟩
 rw [bJ hf]
 rintro _ w1 ⟨rfl,b1⟩
 have HR:Hid (aJ w w1 [.cel (dW (cfgD d x)) (.slice (some ⟨g0,0,none⟩) 0 0)]):=by
  show aJ _ _ _
  rw [show cfgD d x=[] from if_neg hf]
  exact (Z.out.below b1).lowerC D.out (lo:=R.heap.size) (hi:=R.heap.size) D.out.size (Nat.le_refl _) (Chg.refl' _ _ _)
 have cv:=Hd hf
 have dJ:=Hd (bJ hf)
 clear b1 hf x0 x1 x2 x3 lx y0 y1 y2 y3 y4 y5 y6 y7 ly
 go_wp2_with fail
 go_ret2
 exact ⟨some ⟨g0,0,none⟩,0,0,by rw [dJ.out];rfl,HR.out⟩
end Go.Proofs.YtofihjoanjkdmaaGreat
