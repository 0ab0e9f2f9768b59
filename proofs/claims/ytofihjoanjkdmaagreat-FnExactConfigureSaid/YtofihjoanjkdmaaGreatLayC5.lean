/- Selections of nodes in the reference (printed by mksel.py). -/
import Derived.Test.YtofihjoanjkdmaaGreatCfgE
import Derived.Test.YtofihjoanjkdmaaGreatHeldT
import Derived.Test.YtofihjoanjkdmaaGreatLayDM
import Derived.Test.YtofihjoanjkdmaaGreatLayS14
namespace Go.Proofs.YtofihjoanjkdmaaGreat
set_option maxHeartbeats 16000000
set_option maxRecDepth 100000
open Go.RowKit
theorem rG (l:ag) (SA LA OA:Option Addr) (sn sc ln lc on oc:Nat) (it:Int) (es:List LeT) (V:Option Addr) (z W:Nat) (node:Int) (w:World) (h:fU w l SA LA OA sn sc ln lc on oc) (hf:az l) (hE:RdC w w.heap.size (cZ es) (.slice V z W)) (hK:∀e∈es,dG l e) (bn:z<=100000) :
  Calls Tryz.prog 139 #[jE l SA LA OA sn sc ln lc on oc,.agg #[.int .i64 3,.int .i64 it,.slice V z W],.int .i64 node] w fun e w'=>e = .returned (.int .i64 (iM l es node))/\Below w.heap.size w w':=by
 have aO:=hE.esN
 obtain ⟨HE,ah⟩:=hd2 hE aO
 clear hE aO
 have G:=Hd (aB (aB (Below.refl w.heap.size w) (.cells (ai l SA LA OA sn sc ln lc on oc) 41)) (.cells #[.int .i64 3,.int .i64 it,.slice V z W] 89))
 have B:=aW (.cells #[.int .i64 3,.int .i64 it,.slice V z W] 89) (aI w (.cells (ai l SA LA OA sn sc ln lc on oc) 41))
 have K:=aI (w.alloc (.cells (ai l SA LA OA sn sc ln lc on oc) 41)) (.cells #[.int .i64 3,.int .i64 it,.slice V z W] 89)
 simp only [World.size_alloc] at K
 obtain ⟨ax,ay⟩:=hd2 B K
 clear B K
 obtain ⟨ap,ae,ar⟩:=h.lens
 have bo:=hf.nseq
 have a1:=hf.nlut
 have bg:=hf.nout
 have bO:=hf.inp
 rw [ap] at bo
 rw [ae] at a1
 rw [ar] at bg
 obtain ⟨HN,HF,bK,bC,bN⟩:=hd5 h hf ap ae ar
 have bI:Hid ((l.first:Int)=1+l.inputs+(sn:Int)):=by show _=_;unfold ag.first;omega
 have aV:Hid ((l.count:Int)=1+l.inputs+(sn:Int)+(ln:Int)):=by show _=_;unfold ag.count ag.first;omega
 clear h hf ap ae ar
 have aj:=Hd hK
 clear hK
 by_cases J:node=0
 ·have HR:Hid (iM l es node=0):=if_pos J
  have d0:(node==0)=true:=by simp [J]
  clear J
  go_enter Tryz.func139,Tryz.ntmps139
  go_upto_region 1 with fail
  generalize (w.alloc (.cells (ai l SA LA OA sn sc ln lc on oc) 41)).alloc (.cells #[.int .i64 3,.int .i64 it,.slice V z W] 89)=W9 at *
  go_wp2_with fail
  go_ret
  exact ⟨aL HR.out.symm,G.out⟩
 have am:Hid (iM l es node=match ku (es.map (dA l)) node with
  | some k=>6+(k:Int)
  | none=>match ku (fD l es) node with
   | some k=>1+(k:Int)
   | none=>0):=if_neg J
 have d0:(node==0)=false:=by simp [J]
 have av:=ax
 have aw:=ay
 clear J
 go_enter Tryz.func139,Tryz.ntmps139
 go_upto_region 1 with fail
 generalize (w.alloc (.cells (ai l SA LA OA sn sc ln lc on oc) 41)).alloc (.cells #[.int .i64 3,.int .i64 it,.slice V z W] 89)=W9 at *
 have lx:=aC ax.out
 have ly:=aC ay.out
 go_wp2_with fail
 clear lx ly
 go_loopw [7] (fun i wr=>∃k:Nat,k<=z/\i = .int .i64 k/\Below W9.heap.size W9 wr/\∀j,j<k→(es.map (dA l))[j]?.getD 0≠node) (fun i _=>z - (intOf i).toNat)
 ·exact ⟨0,Nat.zero_le _,rfl,Below.refl _ _,fun j hj=>by omega⟩
 obtain ⟨k,hk,rfl,hb,D⟩:=hrel
 obtain ⟨g,H⟩:=hd2 hb D
 clear hb D
 by_cases bq:k<z
 ·have a8:=dT (by omega:k<z)
  have I:k<es.length:=by rw [ah.out];exact bq
  obtain ⟨be,oe,a0,ak,c0,c1⟩:=HE.out.es (k:=k) I
  have a7:=Hd a0
  have Q:=aA G.out g.out
  have bd:=aK Q ak
  rw [←Q.cell (p:=⟨be,oe+k * 2,none⟩) ak] at c0
  rw [←Q.cell (p:=⟨be,oe+k * 2+1,none⟩) ak] at c1
  clear Q a0
  have ao:=Hd (aj.out _ (List.getElem_mem I))
  have ad:=wV (l:=l) I
  have hG:dA l ⟨(es[k]?.getD LeT.zero).lut,(es[k]?.getD LeT.zero).ff⟩≠node→∀j,j<k+1→(es.map (dA l))[j]?.getD 0≠node:=fun h=>bW H.out (by rw [ad];exact h)
  have hS:dA l ⟨(es[k]?.getD LeT.zero).lut,(es[k]?.getD LeT.zero).ff⟩=node→iM l es node=6+(k:Int):=fun h=>by
   rw [am.out,lN (k:=k) (by rw [List.length_map];exact I) (by rw [ad];exact h) H.out]
  rw [show es[k]=es[k]?.getD LeT.zero by rw [List.getElem?_eq_getElem I];rfl] at ao
  obtain ⟨U,u⟩:=hd2 hG hS
  clear I ad hG hS
  obtain rfl:=a7.out
  generalize es[k]?.getD LeT.zero=e at *
  obtain ⟨a,b⟩:=e
  simp only at c0 c1 U u ao
  obtain ⟨i0,i1⟩:=ib (by omega:k<z)
  have B:=aD g.out av.out
  have K:=aD g.out aw.out
  obtain ⟨x0,x1,x2,x3⟩:=cs4 B
  obtain ⟨y0,y1,y2⟩:=cs3 K
  have lx:=aC B
  have ly:=aC K
  clear B K
  have aV:=Hd (fun (v:Sub wr)=>rV l SA LA OA sn sc ln lc on oc a b v.v (HN.out.below (aA (aA G.out g.out) v.h)) HF.out ao.out)
  generalize dA l ⟨a,b⟩=Y at *
  go_upto_region 6 with fail
  have aG:=aY wr
  have bc:=aP wr
  refine wpB wr ?_
  repeat (go_big_quiet_step ((first
   | (go_at_call 204;with_reducible exact aN (aV.out _)))))
  refine wpQuiet_nil ?_
  rintro wq ⟨⟨w5,hD⟩,hw⟩
  replace hw:wq=w5:=hw
  subst hw
  clear aG bc
  have aQ:=Hd (aA g.out hD)
  clear hD c0 c1 bd x0 x1 x2 x3 y0 y1 y2 lx ly
  by_cases hY:Y=node
  ·have dy:(Y==node)=true:=by simp [hY]
   have HR:=Hd (u.out hY)
   clear U u hY
   go_wp2_with fail
   go_ret
   exact ⟨aL HR.out.symm,aA G.out aQ.out⟩
  have dy:(Y==node)=false:=by simp [hY]
  have al:=Hd (U.out hY)
  clear U u hY
  go_wp2_with fail
  go_roundw
  ·exact ⟨k+1,by omega,by go_num,aQ.out,al.out⟩
  simp [intOf];omega
 have aU:k=z:=by omega
 have a8:=dF (by omega:z<=k)
 have aX:Hid (ku (es.map (dA l)) node=none):=lQ (fun j hj=>H.out j (by rw [aU,←ah.out];rwa [List.length_map] at hj))
 clear H aU
 have B:=aD g.out av.out
 have K:=aD g.out aw.out
 obtain ⟨x0,x1,x2,x3⟩:=cs4 B
 obtain ⟨y0,y1,y2⟩:=cs3 K
 have lx:=aC B
 have ly:=aC K
 clear B K
 go_wp2_with fail
 refine (oL l SA LA OA sn sc ln lc on oc es V z W _ (HN.out.below (aA G.out g.out)) HF.out (HE.out.below (aA G.out g.out)) aj.out bn).mono ?_
 rintro _ w3 ⟨PA,pn,pc,rfl,op,b3⟩
 have af:=Hd op.ints
 have aM:=Hd (aA (aA G.out g.out) b3)
 have bP:pn<=1099511627776:=by
  have h1:=op.len
  have h2:(fD l es).length<=4 * z:=yw HF.out aj.out (by rw [ah.out];exact Nat.le_refl _)
  omega
 clear b3 op x0 x1 x2 x3 y0 y1 y2 lx ly
 go_wp2_with fail
 go_loopw [9] (fun i wr=>∃q:Nat,q<=pn/\i = .int .i64 (q:Int)/\w3=wr/\∀j,j<q→(fD l es)[j]?.getD 0≠node) (fun i _=>pn - (intOf i).toNat)
 ·exact ⟨0,by omega,rfl,rfl,fun j hj=>by omega⟩
 obtain ⟨q,hq,rfl,rfl,D⟩:=hrel
 have R:=Hd D
 clear D
 by_cases Z:q<pn
 ·have a6:=dT (by omega:q<pn)
  have aH:q<(fD l es).length:=by rw [af.out.1];exact Z
  obtain ⟨bp,op,aS,bD,aJ⟩:=af.out.2 (by omega)
  have bf:=Hd aS
  have cp:=aJ q Z
  have hG:(fD l es)[q]?.getD 0≠node→∀j,j<q+1→(fD l es)[j]?.getD 0≠node:=fun h=>bW R.out h
  have hS:(fD l es)[q]?.getD 0=node→iM l es node=1+(q:Int):=fun h=>by
   rw [am.out,aX.out]
   show (match ku (fD l es) node with|some k=>1+(k:Int)|none=>0)=_
   rw [lN (k:=q) aH h R.out]
  obtain ⟨U,u⟩:=hd2 hG hS
  clear aJ aS hG hS aH
  obtain rfl:=bf.out
  generalize (fD l es)[q]?.getD 0=x at *
  obtain ⟨i0,i1⟩:=ib (by omega:q<pn)
  by_cases B:x=node
  ·have dx:(x==node)=true:=by simp [B]
   have HR:=Hd (u.out B)
   clear U u B
   go_wp2_with fail
   go_ret
   exact ⟨aL HR.out.symm,aM.out⟩
  have dx:(x==node)=false:=by simp [B]
  have al:=Hd (U.out B)
  clear U u B
  go_wp2_with fail
  go_roundw
  ·exact ⟨q+1,by omega,by go_num,by first|rfl|trivial,al.out⟩
  simp [intOf];omega
 have aF:q=pn:=by omega
 have a6:=dF (by omega:pn<=q)
 have HR:Hid (iM l es node=0):=by
  show _=_
  rw [am.out,aX.out]
  show (match ku (fD l es) node with|some k=>1+(k:Int)|none=>0)=_
  rw [lQ (fun j hj=>R.out j (by rw [aF,←af.out.1];exact hj))]
 clear R aF
 go_wp2_with fail
 go_ret
 exact ⟨aL HR.out.symm,aM.out⟩
theorem yJ (l:ag) (SA LA OA:Option Addr) (sn sc ln lc on oc:Nat) (it:Int) (es:List LeT) (EA:Option Addr) (V ec:Nat) (w:World) (hN:fU w l SA LA OA sn sc ln lc on oc) (hf:az l) (hE:RdC w w.heap.size (cZ es) (.slice EA V ec)) (hK:∀e∈es,dG l e) (cl:V<=2) :
  Calls Tryz.prog 70 #[jE l SA LA OA sn sc ln lc on oc,.agg #[.int .i64 3,.int .i64 it,.slice EA V ec]] w fun e w'=>∃S m q,e = .returned (.slice S m q)/\aJ w w' [.cel (iE (mE l es es.length)) (.slice S m q)]:=by
 obtain ⟨bI,bt,cY⟩:=hN.lens
 have dI:sn<=12:=by rw [←bI];exact hf.nseq
 have dt:ln<=400:=by rw [←bt];exact hf.nlut
 have a7:Hid (es.length=V):=hE.esN
 obtain ⟨cd,cv,HN,HF,HE,HK⟩:=hd6 bI bt hN hf hE hK
 clear hN hf hE hK bI bt cY
 have u:=Hd (aB (aB (Below.refl w.heap.size w) (.cells (ai l SA LA OA sn sc ln lc on oc) 41)) (.cells #[.int .i64 3,.int .i64 it,.slice EA V ec] 89))
 have h1:=aW (.cells #[.int .i64 3,.int .i64 it,.slice EA V ec] 89) (aI w (.cells (ai l SA LA OA sn sc ln lc on oc) 41))
 have h2:=aI (w.alloc (.cells (ai l SA LA OA sn sc ln lc on oc) 41)) (.cells #[.int .i64 3,.int .i64 it,.slice EA V ec] 89)
 simp only [World.size_alloc] at h2
 obtain ⟨I,ad⟩:=hd2 h1 h2
 clear h1 h2
 go_enter Tryz.func70,Tryz.ntmps70
 go_upto_region 1 with fail
 obtain ⟨gN,bG⟩:∃g,w.heap.size=g:=⟨_,rfl⟩
 obtain ⟨gK,bC⟩:∃g,gN+1=g:=⟨_,rfl⟩
 generalize (w.alloc (.cells (ai l SA LA OA sn sc ln lc on oc) 41)).alloc (.cells #[.int .i64 3,.int .i64 it,.slice EA V ec] 89)=Y at *
 rw [bG] at I ad
 rw [bC] at ad
 (try rw [bG])
 (try rw [bC])
 clear bG bC
 have cP:=fun W=>FT W
 have a6:=Hd (aJ.nil (Below.refl Y.heap.size Y))
 go_cut [5] (fun p w'=>uy Y p w')
 case first =>
  go_region
  all_goals
   go_wp2_with fail
   go_meet
   first|exact tN a6.out (by simp)|exact tN a6.out.drew (by simp)|exact (tN a6.out (by simp)).drew
 obtain ⟨gL,rfl,cb⟩:=hcut
 have cy:=Hd cb
 clear cb a6
 go_wp2_with fail
 go_loopw [6] (fun i wr=>∃k:Nat,k<=V/\i = .int .i64 (k:Int)/\aJ Y wr [.cel (iE (mE l es k)) (.slice (some ⟨gL,0,none⟩) 2 2)]) (fun i _=>V - (intOf i).toNat)
 ·exact ⟨0,by omega,rfl,by rw [wZ];exact cy.out⟩
 obtain ⟨k,hk,rfl,hs⟩:=hrel
 have HS:=Hd hs
 clear hs
 obtain ⟨-,-,k2,lk⟩:=jX (aD HS.out.bel ad.out)
 by_cases cX:k<V
 ·have cB:=dT (by omega:k<V)
  have aZ:k<es.length:=by rw [a7.out];exact cX
  obtain ⟨be,oe,co,bA,a4,bf⟩:=HE.out.es (k:=k) aZ
  have bp:dG l (es[k]?.getD LeT.zero):=by rw [List.getElem?_eq_getElem aZ];exact HK.out _ (List.getElem_mem aZ)
  have bg:=yx l (by rw [a7.out];exact cl) aZ
  have bD:k<(mE l es k).length:=by rw [ul l (by rw [a7.out];exact cl) (by omega)];omega
  have a9:=Hd (aA u.out HS.out.bel)
  rw [←a9.out.cell (p:=⟨be,oe+k * 2,none⟩) bA] at a4
  rw [←a9.out.cell (p:=⟨be,oe+k * 2+1,none⟩) bA] at bf
  have cH:=aK a9.out bA
  obtain ⟨el,ci⟩:∃y,es[k]?.getD LeT.zero=y:=⟨_,rfl⟩
  rw [ci] at a4 bf bp bg
  obtain ⟨a,b⟩:=el
  obtain ⟨aM,cx⟩:=hd2 bp co
  clear ci bp co aZ
  obtain rfl:=cx.out
  obtain ⟨LS,b4⟩:∃y,mE l es k=y:=⟨_,rfl⟩
  rw [b4] at HS bg bD
  obtain ⟨bK,bx⟩:=hd2 bg bD
  clear b4 bg bD
  simp only at a4 bf
  obtain ⟨i0,i1⟩:=ib (by omega:k<V)
  have i2:(k:Int)<2:=by omega
  have dw:k<2:=by omega
  have bz:=((HS.out.pushOwn (aB (Below.refl _ _) I4) (Own.made (cur:=#[.int .i64 0,.int .i64 0,.int .i64 0,.int .i64 0]) (aI wr _) (Nat.le_refl _) (by unfold maxLen;simp) rfl rfl:Own wr.heap.size (wr.alloc I4) (some ⟨wr.heap.size,0,none⟩) 4 4 [0,0,0,0])).pushBlk #[.slice (some ⟨wr.heap.size,0,none⟩) 4 4,.int .i64 2,.int .i64 0,.int .i64 0] 121).pushBlk #[.int .i64 a,.int .i64 b] 94
  simp only [World.size_alloc] at bz
  have a1:=Hd bz
  clear bz
  go_upto_region 7 with fail
  clear a4 bf cH k2 lk
  obtain ⟨H,br⟩:∃g,wr.heap.size=g:=⟨_,rfl⟩
  obtain ⟨J,bs⟩:∃g,H+1=g:=⟨_,rfl⟩
  obtain ⟨gE,bL⟩:∃g,J+1=g:=⟨_,rfl⟩
  rw [br] at a1
  rw [bs] at a1
  rw [bL] at a1
  (try rw [br])
  (try rw [bs])
  (try rw [bL])
  clear br bs bL
  generalize ((wr.alloc I4).alloc (.cells #[.slice (some ⟨H,0,none⟩) 4 4,.int .i64 2,.int .i64 0,.int .i64 0] 121)).alloc (.cells #[.int .i64 a,.int .i64 b] 94)=W1 at *
  have ar:Hid (aJ Y W1 [.cel (iE (LS)) (.slice (some ⟨gL,0,none⟩) 2 2),.cel (aH ([0,0,0,0])) (.slice (some ⟨H,0,none⟩) 4 4),.blk J #[.slice (some ⟨H,0,none⟩) 4 4,.int .i64 (2),.int .i64 (0),.int .i64 (0)] 121,.blk gE #[.int .i64 (a),.int .i64 (b)] 94]):=a1
  clear a1 HS a9 cP
  obtain ⟨e0,le⟩:=wO ((ar.out.blk 3 rfl).1)
  by_cases ha:0<=a
  ·obtain ⟨m,hm⟩:∃m:Nat,a=(m:Int):=⟨a.toNat,by omega⟩
   subst hm
   have bd:m<l.luts.length:=by have h1:(m:Int)<(l.luts.length:Int):=aM.out.lut.2;omega
   have du:m<ln:=by rw [←cv.out];exact bd
   obtain ⟨gt,ot,IA,im,ic,cn,a8,t0,t1,rI⟩:=HN.out.lt.lut' (k:=m) bd
   have aq:=Hd rI.ints
   have bH:im<=4:=by rw [←aq.out.1];exact (HF.out.luts m bd).1
   have cR:Hid ((l.luts[m]?.getD Lt.zero).ins.length<=4):=(HF.out.luts m bd).1
   have cT:=Hd cn
   have ce:Hid (∀v,Below w.heap.size w v→v.cell? ⟨gt,ot+m * 2,none⟩=some (.slice IA im ic)):=fun v Z=>(Z.cell (p:=⟨gt,ot+m * 2,none⟩) a8).trans t0
   have b9:Hid (∀v,Below w.heap.size w v→v.cell? ⟨gt,ot+m * 2+1,none⟩=some (.int .i64 (l.luts[m]?.getD Lt.zero).mask)):=fun v Z=>(Z.cell (p:=⟨gt,ot+m * 2+1,none⟩) a8).trans t1
   clear cn t0 t1 rI
   obtain rfl:=cT.out
   have da:decide ((m:Int)≥0)=true:=by simp
   obtain ⟨dz,dy⟩:=ib (by omega:m<ln)
   have t1:=b9.out _ (aA u.out ar.out.bel)
   have a5:=aK (aA u.out ar.out.bel) a8
   have aw:Hid ((leF l es ⟨(m:Int),b⟩).sel=lJ (iM l es) (l.luts[m]?.getD Lt.zero).ins (l.luts[m]?.getD Lt.zero).ins.length/\(leF l es ⟨(m:Int),b⟩).mask=(l.luts[m]?.getD Lt.zero).mask):=⟨by unfold leF;simp,by unfold leF;simp⟩
   generalize (l.luts[m]?.getD Lt.zero).mask=mk at *
   have Q:=(ar.out.blk 2 rfl).1
   have b1:=aF (k:=1) Q rfl
   have cK:=aX Q 1
   have lb:=aC Q
   clear Q
   obtain ⟨-,-,n2,aj⟩:=jX (aD ar.out.bel I.out)
   go_upto_region 9 with fail
   have cI:Hid (aJ Y (W1.setCell ⟨J,1,none⟩ (.int .i64 mk)) [.cel (iE (LS)) (.slice (some ⟨gL,0,none⟩) 2 2),.cel (aH ([0,0,0,0])) (.slice (some ⟨H,0,none⟩) 4 4),.blk J #[.slice (some ⟨H,0,none⟩) 4 4,.int .i64 (mk),.int .i64 (0),.int .i64 (0)] 121,.blk gE #[.int .i64 ((m:Int)),.int .i64 (b)] 94]):=Hd (ar.out.put 2 rfl 1 (.int .i64 mk))
   generalize W1.setCell ⟨J,1,none⟩ (.int .i64 mk)=W2 at *
   clear t1 a5 b1 cK lb n2 aj e0 le
   go_wp2_with fail
   go_loopw [9] (fun i wr=>∃j:Nat,j<=im/\i = .int .i64 (j:Int)/\aJ Y wr [.cel (iE (LS)) (.slice (some ⟨gL,0,none⟩) 2 2),.cel (aH (lJ (iM l es) (l.luts[m]?.getD Lt.zero).ins j)) (.slice (some ⟨H,0,none⟩) 4 4),.blk J #[.slice (some ⟨H,0,none⟩) 4 4,.int .i64 (mk),.int .i64 (0),.int .i64 (0)] 121,.blk gE #[.int .i64 ((m:Int)),.int .i64 (b)] 94]) (fun i _=>im - (intOf i).toNat)
   ·exact ⟨0,by omega,rfl,cI.out⟩
   obtain ⟨j,hj,rfl,hs⟩:=hrel
   have HS:=Hd hs
   clear hs
   have t0:=ce.out _ (aA u.out HS.out.bel)
   have a5:=aK (aA u.out HS.out.bel) a8
   obtain ⟨-,-,n2,aj⟩:=jX (aD HS.out.bel I.out)
   obtain ⟨e0,le⟩:=wO ((HS.out.blk 3 rfl).1)
   by_cases ca:j<im
   ·have dj:=dT (by omega:j<im)
    have aT:j<(l.luts[m]?.getD Lt.zero).ins.length:=by rw [aq.out.1];exact ca
    obtain ⟨bi,oi,a3,bF,aU⟩:=aq.out.2 (by omega)
    have bN:=wY (iM l es) cR.out aT
    obtain ⟨nd,aG⟩:∃y,(l.luts[m]?.getD Lt.zero).ins[j]?.getD 0=y:=⟨_,rfl⟩
    have ak:=aU j ca
    rw [aG] at ak bN
    have cw:Hid (∀v,Below w.heap.size w v→v.cell? ⟨bi,oi+j,none⟩=some (.int .i64 nd)):=fun v Z=>(Z.cell (p:=⟨bi,oi+j,none⟩) bF).trans ak
    obtain ⟨bV,bM⟩:=hd2 bN a3
    clear a3 aU aG bN aT ak
    obtain rfl:=bM.out
    obtain ⟨j0,j1⟩:=ib (by omega:j<im)
    have j4:(j:Int)<4:=by omega
    have cF:j<4:=by omega
    obtain ⟨SL,ck⟩:∃y,lJ (iM l es) (l.luts[m]?.getD Lt.zero).ins j=y:=⟨_,rfl⟩
    rw [ck] at HS bV
    clear ck
    go_upto_region 12 with fail
    clear t0 a5 n2 aj e0 le
    have a0:=Hd (fun (v:World) (Z:Below Y.heap.size Y v) (node:Int)=>rG l SA (some ⟨gt,ot,none⟩) OA sn sc ln lc on oc it es (some ⟨be,oe,none⟩) V ec node v (HN.out.below (aA u.out Z)) HF.out (HE.out.below (aA u.out Z)) HK.out (by omega))
    have U:Hid (∀(v:World),aJ Y v [.cel (iE (LS)) (.slice (some ⟨gL,0,none⟩) 2 2),.cel (aH (SL)) (.slice (some ⟨H,0,none⟩) 4 4),.blk J #[.slice (some ⟨H,0,none⟩) 4 4,.int .i64 (mk),.int .i64 (0),.int .i64 (0)] 121,.blk gE #[.int .i64 ((m:Int)),.int .i64 (b)] 94]→(v.cell? ⟨J,0,none⟩=some (.slice (some ⟨H,0,none⟩) 4 4)/\K4 v gN (.int .i64 l.inputs) (.slice SA sn sc) (.slice (some ⟨gt,ot,none⟩) ln lc) (.slice OA on oc) (K3 v gK (.int .i64 3) (.int .i64 it) (.slice (some ⟨be,oe,none⟩) V ec) (v.cell? ⟨gE,0,none⟩=some (.int .i64 ((m:Int)))/\v.cell? ⟨gE,1,none⟩=some (.int .i64 (b))/\v.cell? ⟨gt,ot+m * 2,none⟩=some (.slice (some ⟨bi,oi,none⟩) im ic)/\v.cell? ⟨bi,oi+j,none⟩=some (.int .i64 nd))))):=Hd fun v h=>⟨aF (k:=0) (h.blk 2 rfl).1 rfl,aF (k:=0) (aD h.bel I.out) rfl,aF (k:=1) (aD h.bel I.out) rfl,aF (k:=2) (aD h.bel I.out) rfl,aF (k:=3) (aD h.bel I.out) rfl,aF (k:=0) (aD h.bel ad.out) rfl,aF (k:=1) (aD h.bel ad.out) rfl,aF (k:=2) (aD h.bel ad.out) rfl,aF (k:=0) (h.blk 3 rfl).1 rfl,aF (k:=1) (h.blk 3 rfl).1 rfl,ce.out _ (aA u.out h.bel),cw.out _ (aA u.out h.bel)⟩
    have HT:Hid (aJ Y wr.drew [.cel (iE (LS)) (.slice (some ⟨gL,0,none⟩) 2 2),.cel (aH (SL)) (.slice (some ⟨H,0,none⟩) 4 4),.blk J #[.slice (some ⟨H,0,none⟩) 4 4,.int .i64 (mk),.int .i64 (0),.int .i64 (0)] 121,.blk gE #[.int .i64 ((m:Int)),.int .i64 (b)] 94]):=Hd HS.out.drew
    have bP:=HT.out.bel
    refine wp_region_noPanic ?_
    refine iR 17 (fun w'=>w'.cell? ⟨J,0,none⟩=some (.slice (some ⟨H,0,none⟩) 4 4)/\K4 w' gN (.int .i64 l.inputs) (.slice SA sn sc) (.slice (some ⟨gt,ot,none⟩) ln lc) (.slice OA on oc) (K3 w' gK (.int .i64 3) (.int .i64 it) (.slice (some ⟨be,oe,none⟩) V ec) (w'.cell? ⟨gE,0,none⟩=some (.int .i64 ((m:Int)))/\w'.cell? ⟨gE,1,none⟩=some (.int .i64 (b))/\w'.cell? ⟨gt,ot+m * 2,none⟩=some (.slice (some ⟨bi,oi,none⟩) im ic)/\w'.cell? ⟨bi,oi+j,none⟩=some (.int .i64 nd)))) (U.out _ HT.out) (fun z G=>?_)
    refine onT z 0 opA G ?_
    refine onT z 1 (opB opA) G ?_
    refine onT z 2 (opB (opB opA)) G ?_
    refine onT z 3 (opB (opB (opB opA))) G ?_
    refine onT z 4 (opC opA) G ?_
    refine onT z 5 (opC (opB opA)) G ?_
    refine onT z 6 (opC (opB (opB opA))) G ?_
    refine onT z 7 (opC (opB (opB (opB opA)))) G ?_
    refine onT z 8 (opC (opC opA)) G ?_
    refine onT z 9 (opC (opC (opB opA))) G ?_
    refine onT z 10 (opC (opC (opB (opB opA)))) G ?_
    refine onT z 11 (opC (opC (opB (opB (opB opA))))) G ?_
    refine onT z 12 (opC (opC (opC opA))) G ?_
    refine onT z 13 (opC (opC (opC (opB opA)))) G ?_
    refine onT z 14 (opC (opC (opC (opB (opB opA))))) G ?_
    refine uF z 15 (opC (opC (opC (opB (opB (opB opA)))))) (fun K hK=>?_)
    go_simp
    go_at_call 139
    with_reducible refine (a0.out _ bP _).mono ?_
    rintro _ w7 ⟨rfl,b7⟩
    have ay:=Hd (HT.out.below b7)
    clear b7
    refine hK.out _ _ (U.out _ ay.out) (fun G=>?_)
    clear hK K
    try simp only [Act.put,List.setIfInBounds_toArray,List.set_cons_zero,List.set_cons_succ]
    refine onT z 16 (opD opA) G ?_
    obtain ⟨_,R,_,q8,c8,f8,hu⟩:=ay.out.setI 1 (i:=j) rfl cF
    injection R with R
    injection R with R
    subst R
    refine tF z 17 (opD (opB opA)) ?_
    go_wp2_with fail
    refine NoPanic.normal ?_
    have cN:=Hd (hu (iM l es nd))
    go_wp2_with fail
    go_roundw
    ·exact ⟨j+1,by omega,by go_num,by have h9:=cN.out;rw [bV.out] at h9;exact h9⟩
    simp [intOf];omega
   have b5:j=im:=by omega
   have dj:=dF (by omega:im<=j)
   have aT:j=(l.luts[m]?.getD Lt.zero).ins.length:=by rw [aq.out.1];exact b5
   rw [aT] at HS
   obtain ⟨WR,rfl⟩:∃y,y=wr:=⟨wr,rfl⟩
   have B:=HS
   go_upto_region 14 with fail
   clear b5 aT HS t0 a5 n2 aj e0 le
   by_cases Q:0<=b
   ·have df:decide (b≥0)=true:=decide_eq_true Q
    obtain ⟨f,hf⟩:∃f:Nat,b=(f:Int):=⟨b.toNat,by omega⟩
    subst hf
    have ax:f<l.seqs.length:=by have h1:(f:Int)<(l.seqs.length:Int):=aM.out.ff.2;omega
    have cM:f<sn:=by rw [←cd.out];exact ax
    obtain ⟨cQ,cD⟩:=ib (by omega:f<sn)
    obtain ⟨-,e1,le⟩:=jv ((B.out.blk 3 rfl).1)
    obtain ⟨sb,so,cU,cE,cV,aV,au,_,d1,_,_⟩:=HN.out.sq.sq' (k:=f) ax
    have bB:=Hd aV
    have bw:Hid (∀v,Below w.heap.size w v→v.cell? ⟨sb,so+f * 3+1,none⟩=some (.int .i64 (l.seqs[f]?.getD Sq.zero).init)):=fun v Z=>(Z.cell (p:=⟨sb,so+f * 3+1,none⟩) au).trans d1
    clear aV d1
    obtain rfl:=bB.out
    have Q:=(B.out.blk 2 rfl).1
    obtain ⟨-,-,b2,b3⟩:=cs4 Q
    have bJ:=aX Q 2
    have bE:=aX Q 3
    have lb:=aC Q
    clear Q
    obtain ⟨-,n1,aj⟩:=jv (aD B.out.bel I.out)
    have s1:=bw.out _ (aA u.out B.out.bel)
    have bu:=aK (aA u.out B.out.bel) au
    have bO:sb<J:=Nat.lt_of_lt_of_le (aK u.out au) (B.out.blk 2 rfl).2
    have HI:Hid ((leF l es ⟨(m:Int),(f:Int)⟩).flop=1/\(leF l es ⟨(m:Int),(f:Int)⟩).init=(l.seqs[f]?.getD Sq.zero).init):=⟨by unfold leF;simp,by unfold leF;simp⟩
    generalize (l.seqs[f]?.getD Sq.zero).init=ii at *
    go_upto_region 17 with fail
    have am:Hid (aJ Y ((WR.setCell ⟨J,2,none⟩ (.int .i64 1)).setCell ⟨J,3,none⟩ (.int .i64 ii)) [.cel (iE (LS)) (.slice (some ⟨gL,0,none⟩) 2 2),.cel (aH (lJ (iM l es) (l.luts[m]?.getD Lt.zero).ins (l.luts[m]?.getD Lt.zero).ins.length)) (.slice (some ⟨H,0,none⟩) 4 4),.blk J #[.slice (some ⟨H,0,none⟩) 4 4,.int .i64 (mk),.int .i64 (1),.int .i64 (ii)] 121,.blk gE #[.int .i64 ((m:Int)),.int .i64 ((f:Int))] 94]):=Hd ((B.out.put 2 rfl 2 (.int .i64 1)).put 2 rfl 3 (.int .i64 ii))
    generalize (WR.setCell ⟨J,2,none⟩ (.int .i64 1)).setCell ⟨J,3,none⟩ (.int .i64 ii)=WF at *
    clear s1 bu bO b2 b3 bJ bE lb n1 aj e1 le
    have aS:Hid (mE l es (k+1)=LS.set k ⟨lJ (iM l es) (l.luts[m]?.getD Lt.zero).ins (l.luts[m]?.getD Lt.zero).ins.length,mk,1,ii⟩):=by show _=_;rw [←bK.out,EG aw.out.1 aw.out.2 HI.out.1 HI.out.2]
    obtain ⟨_,D,cp,⟨⟨x0,c0⟩,⟨x1,c1⟩,⟨x2,c2⟩,⟨x3,c3⟩⟩,⟨f0,f1,f2,f3⟩,al⟩:=uz am.out 0 1 (by decide) (e:=k) ⟨lJ (iM l es) (l.luts[m]?.getD Lt.zero).ins (l.luts[m]?.getD Lt.zero).ins.length,mk,1,ii⟩ rfl rfl bx.out
    injection D with D
    injection D with D
    subst D
    have aY:=Hd al
    clear al
    obtain ⟨b0,b1,b2,b3,lb⟩:=cO ((am.out.blk 2 rfl).1)
    go_wp2_with fail
    go_roundw
    ·exact ⟨k+1,by omega,by go_num,by rw [aS.out];exact aY.out.sub (List.Sublist.cons_cons _ (List.nil_sublist _))⟩
    simp [intOf];omega
   obtain ⟨-,e1,le⟩:=jv ((B.out.blk 3 rfl).1)
   have df:decide (b≥0)=false:=decide_eq_false Q
   have HI:Hid ((leF l es ⟨(m:Int),b⟩).flop=0/\(leF l es ⟨(m:Int),b⟩).init=0):=⟨by unfold leF;exact if_neg Q,by unfold leF;exact if_neg Q⟩
   clear Q
   go_upto_region 17 with fail
   have am:=B
   obtain ⟨WF,rfl⟩:∃y,y=WR:=⟨WR,rfl⟩
   clear e1 le
   have aS:Hid (mE l es (k+1)=LS.set k ⟨lJ (iM l es) (l.luts[m]?.getD Lt.zero).ins (l.luts[m]?.getD Lt.zero).ins.length,mk,0,0⟩):=by show _=_;rw [←bK.out,EG aw.out.1 aw.out.2 HI.out.1 HI.out.2]
   obtain ⟨_,D,cp,⟨⟨x0,c0⟩,⟨x1,c1⟩,⟨x2,c2⟩,⟨x3,c3⟩⟩,⟨f0,f1,f2,f3⟩,al⟩:=uz am.out 0 1 (by decide) (e:=k) ⟨lJ (iM l es) (l.luts[m]?.getD Lt.zero).ins (l.luts[m]?.getD Lt.zero).ins.length,mk,0,0⟩ rfl rfl bx.out
   injection D with D
   injection D with D
   subst D
   have aY:=Hd al
   clear al
   obtain ⟨b0,b1,b2,b3,lb⟩:=cO ((am.out.blk 2 rfl).1)
   go_wp2_with fail
   go_roundw
   ·exact ⟨k+1,by omega,by go_num,by rw [aS.out];exact aY.out.sub (List.Sublist.cons_cons _ (List.nil_sublist _))⟩
   simp [intOf];omega
  have da:decide (a≥0)=false:=decide_eq_false ha
  have Q:0<=b:=by have h1:=aM.out.lut.1;have h2:=aM.out.ff.1;have h3:=aM.out.one;change -1<=a at h1;change -1<=b at h2;change ¬(a=-1/\b=-1) at h3;omega
  obtain ⟨f,hf⟩:∃f:Nat,b=(f:Int):=⟨b.toNat,by omega⟩
  subst hf
  have ax:f<l.seqs.length:=by have h1:(f:Int)<(l.seqs.length:Int):=aM.out.ff.2;omega
  have cM:f<sn:=by rw [←cd.out];exact ax
  obtain ⟨ah,av,IA,im,ic,bl,cj,_,_,d2,rI⟩:=HN.out.sq.sq' (k:=f) ax
  have aq:=Hd rI.ints
  have bH:1<=im:=by
   rw [←aq.out.1]
   rcases (HF.out.seqs f ax).1 with h|h
   ·rw [h.2.2];exact Nat.le_refl _
   rw [h.2.2];omega
  have bZ:=Hd bl
  have cz:Hid (∀v,Below w.heap.size w v→v.cell? ⟨ah,av+f * 3+2,none⟩=some (.slice IA im ic)):=fun v Z=>(Z.cell (p:=⟨ah,av+f * 3+2,none⟩) cj).trans d2
  obtain ⟨bi,oi,a3,bF,aU⟩:=aq.out.2 bH
  have ak:=aU 0 (by omega)
  rw [Nat.add_zero] at ak
  obtain ⟨nd,aG⟩:∃y,(l.seqs[f]?.getD Sq.zero).ins[0]?.getD 0=y:=⟨_,rfl⟩
  rw [aG] at ak
  have cJ:Hid (∀v,Below w.heap.size w v→v.cell? ⟨bi,oi,none⟩=some (.int .i64 nd)):=fun v Z=>(Z.cell (p:=⟨bi,oi,none⟩) bF).trans ak
  have bM:=Hd a3
  have aw:Hid ((leF l es ⟨a,(f:Int)⟩).sel=[iM l es nd,0,0,0]/\(leF l es ⟨a,(f:Int)⟩).mask=2):=by
   constructor
   ·unfold leF
    simp only [if_neg ha]
    rw [Int.toNat_natCast,aG]
   unfold leF
   exact if_neg ha
  clear bl d2 rI a3 aU ak aG ha
  obtain rfl:=bZ.out
  obtain rfl:=bM.out
  have cQ:(0:Int)<=(f:Int):=Q
  have cD:(f:Int)<(sn:Int):=by omega
  have dE:(0:Int)<(im:Int):=by omega
  have c6:0<im:=bH
  have dB:(0:Int)<4:=by omega
  obtain ⟨wr,rfl⟩:∃y,y=W1:=⟨W1,rfl⟩
  go_upto_region 13 with fail
  clear e0 le
  have a0:=Hd (fun (v:World) (Z:Below Y.heap.size Y v) (node:Int)=>rG l (some ⟨ah,av,none⟩) LA OA sn sc ln lc on oc it es (some ⟨be,oe,none⟩) V ec node v (HN.out.below (aA u.out Z)) HF.out (HE.out.below (aA u.out Z)) HK.out (by omega))
  have U:Hid (∀(v:World),aJ Y v [.cel (iE (LS)) (.slice (some ⟨gL,0,none⟩) 2 2),.cel (aH ([0,0,0,0])) (.slice (some ⟨H,0,none⟩) 4 4),.blk J #[.slice (some ⟨H,0,none⟩) 4 4,.int .i64 (2),.int .i64 (0),.int .i64 (0)] 121,.blk gE #[.int .i64 (a),.int .i64 ((f:Int))] 94]→(v.cell? ⟨J,0,none⟩=some (.slice (some ⟨H,0,none⟩) 4 4)/\K4 v gN (.int .i64 l.inputs) (.slice (some ⟨ah,av,none⟩) sn sc) (.slice LA ln lc) (.slice OA on oc) (K3 v gK (.int .i64 3) (.int .i64 it) (.slice (some ⟨be,oe,none⟩) V ec) (v.cell? ⟨gE,0,none⟩=some (.int .i64 (a))/\v.cell? ⟨gE,1,none⟩=some (.int .i64 ((f:Int)))/\v.cell? ⟨ah,av+f * 3+2,none⟩=some (.slice (some ⟨bi,oi,none⟩) im ic)/\v.cell? ⟨bi,oi,none⟩=some (.int .i64 nd))))):=Hd fun v h=>⟨aF (k:=0) (h.blk 2 rfl).1 rfl,aF (k:=0) (aD h.bel I.out) rfl,aF (k:=1) (aD h.bel I.out) rfl,aF (k:=2) (aD h.bel I.out) rfl,aF (k:=3) (aD h.bel I.out) rfl,aF (k:=0) (aD h.bel ad.out) rfl,aF (k:=1) (aD h.bel ad.out) rfl,aF (k:=2) (aD h.bel ad.out) rfl,aF (k:=0) (h.blk 3 rfl).1 rfl,aF (k:=1) (h.blk 3 rfl).1 rfl,cz.out _ (aA u.out h.bel),cJ.out _ (aA u.out h.bel)⟩
  have HT:Hid (aJ Y wr.drew [.cel (iE (LS)) (.slice (some ⟨gL,0,none⟩) 2 2),.cel (aH ([0,0,0,0])) (.slice (some ⟨H,0,none⟩) 4 4),.blk J #[.slice (some ⟨H,0,none⟩) 4 4,.int .i64 (2),.int .i64 (0),.int .i64 (0)] 121,.blk gE #[.int .i64 (a),.int .i64 ((f:Int))] 94]):=Hd ar.out.drew
  have bP:=HT.out.bel
  refine wp_region_noPanic ?_
  refine iR 15 (fun w'=>w'.cell? ⟨J,0,none⟩=some (.slice (some ⟨H,0,none⟩) 4 4)/\K4 w' gN (.int .i64 l.inputs) (.slice (some ⟨ah,av,none⟩) sn sc) (.slice LA ln lc) (.slice OA on oc) (K3 w' gK (.int .i64 3) (.int .i64 it) (.slice (some ⟨be,oe,none⟩) V ec) (w'.cell? ⟨gE,0,none⟩=some (.int .i64 (a))/\w'.cell? ⟨gE,1,none⟩=some (.int .i64 ((f:Int)))/\w'.cell? ⟨ah,av+f * 3+2,none⟩=some (.slice (some ⟨bi,oi,none⟩) im ic)/\w'.cell? ⟨bi,oi,none⟩=some (.int .i64 nd)))) (U.out _ HT.out) (fun z G=>?_)
  refine onT z 0 opA G ?_
  refine onT z 1 (opB opA) G ?_
  refine onT z 2 (opB (opB opA)) G ?_
  refine onT z 3 (opB (opB (opB opA))) G ?_
  refine onT z 4 (opC opA) G ?_
  refine onT z 5 (opC (opB opA)) G ?_
  refine onT z 6 (opC (opB (opB opA))) G ?_
  refine onT z 7 (opC (opB (opB (opB opA)))) G ?_
  refine onT z 8 (opC (opC opA)) G ?_
  refine onT z 9 (opC (opC (opB opA))) G ?_
  refine onT z 10 (opC (opC (opB (opB opA)))) G ?_
  refine onT z 11 (opC (opC (opB (opB (opB opA))))) G ?_
  refine onT z 12 (opC (opC (opC opA))) G ?_
  refine uF z 13 (opC (opC (opC (opB opA)))) (fun K hK=>?_)
  go_simp
  go_at_call 139
  with_reducible refine (a0.out _ bP _).mono ?_
  rintro _ w7 ⟨rfl,b7⟩
  have ay:=Hd (HT.out.below b7)
  clear b7
  refine hK.out _ _ (U.out _ ay.out) (fun G=>?_)
  clear hK K
  try simp only [Act.put,List.setIfInBounds_toArray,List.set_cons_zero,List.set_cons_succ]
  refine onT z 14 (opC (opC (opC (opB (opB opA))))) G ?_
  obtain ⟨_,R,_,q8,c8,f8,hu⟩:=ay.out.setI 1 (i:=0) rfl (by omega)
  injection R with R
  injection R with R
  subst R
  refine tF z 15 (opC (opC (opC (opB (opB (opB opA)))))) ?_
  go_wp2_with fail
  refine NoPanic.normal ?_
  have B:Hid (aJ Y (w7.setCell ⟨H,0,none⟩ (.int .i64 (iM l es nd))) [.cel (iE (LS)) (.slice (some ⟨gL,0,none⟩) 2 2),.cel (aH ([iM l es nd,0,0,0])) (.slice (some ⟨H,0,none⟩) 4 4),.blk J #[.slice (some ⟨H,0,none⟩) 4 4,.int .i64 (2),.int .i64 (0),.int .i64 (0)] 121,.blk gE #[.int .i64 (a),.int .i64 ((f:Int))] 94]):=Hd (hu (iM l es nd))
  generalize w7.setCell ⟨H,0,none⟩ (.int .i64 (iM l es nd))=WR at *
  clear c8 f8 q8 hu ay HT
  have df:decide ((f:Int)≥0)=true:=decide_eq_true Q
  obtain ⟨-,e1,le⟩:=jv ((B.out.blk 3 rfl).1)
  obtain ⟨sb,so,cU,cE,cV,aV,au,_,d1,_,_⟩:=HN.out.sq.sq' (k:=f) ax
  have bB:=Hd aV
  have bw:Hid (∀v,Below w.heap.size w v→v.cell? ⟨sb,so+f * 3+1,none⟩=some (.int .i64 (l.seqs[f]?.getD Sq.zero).init)):=fun v Z=>(Z.cell (p:=⟨sb,so+f * 3+1,none⟩) au).trans d1
  clear aV d1
  have a2:=bB.out
  injection a2 with a2
  injection a2 with h21 h22
  subst h21 h22
  have Q:=(B.out.blk 2 rfl).1
  obtain ⟨-,-,b2,b3⟩:=cs4 Q
  have bJ:=aX Q 2
  have bE:=aX Q 3
  have lb:=aC Q
  clear Q
  obtain ⟨-,n1,aj⟩:=jv (aD B.out.bel I.out)
  have s1:=bw.out _ (aA u.out B.out.bel)
  have bu:=aK (aA u.out B.out.bel) au
  have bO:ah<J:=Nat.lt_of_lt_of_le (aK u.out au) (B.out.blk 2 rfl).2
  have HI:Hid ((leF l es ⟨a,(f:Int)⟩).flop=1/\(leF l es ⟨a,(f:Int)⟩).init=(l.seqs[f]?.getD Sq.zero).init):=⟨by unfold leF;simp,by unfold leF;simp⟩
  generalize (l.seqs[f]?.getD Sq.zero).init=ii at *
  go_upto_region 17 with fail
  have am:Hid (aJ Y ((WR.setCell ⟨J,2,none⟩ (.int .i64 1)).setCell ⟨J,3,none⟩ (.int .i64 ii)) [.cel (iE (LS)) (.slice (some ⟨gL,0,none⟩) 2 2),.cel (aH ([iM l es nd,0,0,0])) (.slice (some ⟨H,0,none⟩) 4 4),.blk J #[.slice (some ⟨H,0,none⟩) 4 4,.int .i64 (2),.int .i64 (1),.int .i64 (ii)] 121,.blk gE #[.int .i64 (a),.int .i64 ((f:Int))] 94]):=Hd ((B.out.put 2 rfl 2 (.int .i64 1)).put 2 rfl 3 (.int .i64 ii))
  generalize (WR.setCell ⟨J,2,none⟩ (.int .i64 1)).setCell ⟨J,3,none⟩ (.int .i64 ii)=WF at *
  clear s1 bu bO b2 b3 bJ bE lb n1 aj e1 le
  have aS:Hid (mE l es (k+1)=LS.set k ⟨[iM l es nd,0,0,0],2,1,ii⟩):=by show _=_;rw [←bK.out,EG aw.out.1 aw.out.2 HI.out.1 HI.out.2]
  obtain ⟨_,D,cp,⟨⟨x0,c0⟩,⟨x1,c1⟩,⟨x2,c2⟩,⟨x3,c3⟩⟩,⟨f0,f1,f2,f3⟩,al⟩:=uz am.out 0 1 (by decide) (e:=k) ⟨[iM l es nd,0,0,0],2,1,ii⟩ rfl rfl bx.out
  injection D with D
  injection D with D
  subst D
  have aY:=Hd al
  clear al
  obtain ⟨b0,b1,b2,b3,lb⟩:=cO ((am.out.blk 2 rfl).1)
  go_wp2_with fail
  go_roundw
  ·exact ⟨k+1,by omega,by go_num,by rw [aS.out];exact aY.out.sub (List.Sublist.cons_cons _ (List.nil_sublist _))⟩
  simp [intOf];omega
 have cm:V=k:=by omega
 have cB:=dF (by omega:V<=k)
 have HR:Hid (aJ w wr [.cel (iE (mE l es es.length)) (.slice (some ⟨gL,0,none⟩) 2 2)]):=by
  have h1:=HS.out.lowerC u.out (lo:=Y.heap.size) (hi:=Y.heap.size) u.out.size (Nat.le_refl _) (Chg.refl' _ _ _)
  rw [a7.out,cm]
  exact h1
 clear cm
 go_wp2_with fail
 go_ret
 exact ⟨_,_,_,rfl,HR.out⟩
theorem vT (d:Dev) (w:World) (hd:dR d=true) :
  Calls Tryz.prog 67 #[.agg (dv d)] w (qi w (ny d)):=by
 obtain ⟨hm,ar,aq,_⟩:=oC hd
 have HD:=Hd hd
 obtain ⟨i0,hi,J,U,q⟩:=info_parts jL
 have ah:=fun W=>bv (P:=Tryz.prog) 26 3 i0 _ Tryz.underlying26 hi J .i64 .i64 (ny d) (ny d) (Nat.le_refl _) (by rw [q];omega) (by omega) W
 have H:∀W:World,(Instr.makeSlice 26 (.int .i64 4) (.int .i64 4)).run Tryz.prog W = .ok (.slice (some ⟨W.heap.size,0,none⟩) 4 4) (W.alloc (.cells (madeCells (Value.int .i64 0).cells (4 * i0.size)) 3)):=fun W=>bv (P:=Tryz.prog) 26 3 i0 _ Tryz.underlying26 hi J .i64 .i64 4 4 (Nat.le_refl _) (by rw [q];omega) (by omega) W
 rw [U,Nat.mul_one,show (Value.int .i64 0).cells=#[Value.int .i64 0] from rfl,nu] at ah H
 clear hi J U q
 generalize ag:ny d=M at *
 have ap:=Hd ag
 have Y:∀w,Calls Tryz.prog 145 #[.agg (dv d)] w fun e w'=>e = .returned (.int .i64 (M:Int))/\Below w.heap.size w w':=fun w=>by rw [←ap.out];exact z8 d w HD.out
 have ax:=Hd Y
 clear hd hm ag Y
 go_enter Tryz.func67,Tryz.ntmps67
 go_wp2_with fail
 refine (fw d _).mono ?_
 rintro e B ⟨rfl,b1⟩
 have hS:=xM b1
 have G:=Hd (AB b1)
 rw [HD.out]
 go_wp2_with fail
 clear b1
 obtain ⟨hB,K,c1,c2,c3,Q,e1,e2,e3,V,f1,f2,f3,hl⟩:=hS
 obtain ⟨p1,p2,p3,p4,p5,p6⟩:=yO (a:=w.heap.size) (b:=B.heap.size) (by omega)
 have aR:w.heap.size+1<B.heap.size:=p1
 have j:=Hd (show Below w.heap.size w B/\KD B w.heap.size d (K4 B (w.heap.size+1) (.slice none 0 0) (.slice none 0 0) (.int .i64 0) (.int .i64 0) (B.frozen? ⟨w.heap.size+1,0,none⟩=false/\B.frozen? ⟨w.heap.size+1,1,none⟩=false/\B.frozen? ⟨w.heap.size+1,2,none⟩=false/\B.frozen? ⟨w.heap.size+1,3,none⟩=false/\w.heap.size+1<B.heap.size from ⟨hB,K,c1,c2,c3,Q,e1,e2,e3,V,f1,f2,f3,hl⟩)))
 clear hl hB ar aq
 have g:KDe B w.heap.size d:=⟨K,c1,c2,c3⟩
 clear K c1 c2 c3
 go_cut [] (fun wx=>Fp w.heap.size M w wx)
 case first =>
  go_region_held3 (fun w'=>KDe w' w.heap.size d)
   (first
    | with_reducible exact l7 g
    | with_reducible exact l7 (dD _ g)
    | with_reducible exact l7 (dD _ (dD _ g))
    | with_reducible exact l7 (dD _ (dD _ (dD _ g)))
    | with_reducible exact l7 (dD _ (dD _ (dD _ (dD _ g))))
    | with_reducible exact (l8 g)
    | with_reducible exact (dD _ (l8 g))
    | with_reducible exact (dD _ (dD _ (l8 g)))
    | with_reducible exact (dD _ (dD _ (dD _ (l8 g))))
    | with_reducible exact (dD _ (dD _ (dD _ (dD _ (l8 g)))))
    | with_reducible exact g
    | with_reducible exact (dD _ g)
    | with_reducible exact (dD _ (dD _ g))
    | with_reducible exact (dD _ (dD _ (dD _ g)))
    | with_reducible exact (dD _ (dD _ (dD _ (dD _ g)))))
   (first
    | (go_at_call 145;(with_reducible refine (ax.out _).mono ?_);rintro e w2 ⟨rfl,I⟩;(first|(with_reducible have z:=kU I j.out)|(with_reducible have z:=kU I (kI _ j.out))|(with_reducible have z:=kU I (kI _ (kI _ j.out)))|(with_reducible have z:=kU I (kI _ (kI _ (kI _ j.out)))));have q:=I.size;(try simp only [World.size_alloc,vZ] at q);have D:=Hd I;have u:=Hd (aD I (l6 (by first|exact G.out|exact aW _ G.out|exact aW _ (aW _ G.out)|exact aW _ (aW _ (aW _ G.out)))));clear I g j Q e1 e2 e3 V f1 f2 f3 p1 p2 p3 p4 p5 p6;have j:=Hd z;obtain ⟨hB,K,c1,c2,c3,Q,e1,e2,e3,V,f1,f2,f3,hl⟩:=z;obtain ⟨p1,p2,p3,p4,p5,p6⟩:=yO (a:=w.heap.size) (b:=w2.heap.size) (by omega);clear hl hB;have g:KDe w2 w.heap.size d:=⟨K,c1,c2,c3⟩;clear K c1 c2 c3))
  all_goals
   go_wp2_with fail
   go_meet
   clear Q e1 e2 e3 V f1 f2 f3
   refine CL (by with_reducible first|exact (kF u.out)|exact (aW _ (kF u.out))|exact (aW _ (aW _ (kF u.out)))|exact (aW _ (aW _ (aW _ (kF u.out))))|exact (aW _ (aW _ (aW _ (aW _ (kF u.out)))))) (by repeat (first|(with_reducible refine jg ?_;(simp only [World.size_alloc,kW]);done)|with_reducible refine aW _ ?_|with_reducible refine oW _ ?_ (by simp only;omega)|with_reducible refine aD D.out ?_|with_reducible refine l6 ?_)) ?_ ?_ ?_ ?_ ?_ ?_
   ·repeat (first
     | (with_reducible refine jg ?_;(simp only [World.size_alloc,kW]);done)
     | with_reducible refine aW _ ?_
     | with_reducible refine oW _ ?_ (by simp only;omega)
     | with_reducible refine aD D.out ?_
     | with_reducible refine l6 ?_)
   ·repeat (first
     | (with_reducible refine jg ?_;(simp only [World.size_alloc,kW]);done)
     | with_reducible refine aW _ ?_
     | with_reducible refine oW _ ?_ (by simp only;omega)
     | with_reducible refine aD D.out ?_
     | with_reducible refine l6 ?_)
   ·repeat (first
     | (with_reducible refine jg ?_;(simp only [World.size_alloc,kW]);done)
     | with_reducible refine aW _ ?_
     | with_reducible refine oW _ ?_ (by simp only;omega)
     | with_reducible refine aD D.out ?_
     | with_reducible refine l6 ?_)
   all_goals first|omega|(with_reducible first|exact (kV j.out.1)|exact (aB (kV j.out.1) _)|exact (aB (aB (kV j.out.1) _) _)|exact (aB (aB (aB (kV j.out.1) _) _) _)|exact (aB (aB (aB (aB (kV j.out.1) _) _) _) _)|exact ((kV j.out.1)).drew|exact ((aB (kV j.out.1) _)).drew|exact ((aB (aB (kV j.out.1) _) _)).drew|exact ((aB (aB (aB (kV j.out.1) _) _) _)).drew|exact ((aB (aB (aB (aB (kV j.out.1) _) _) _) _)).drew)
 case rest =>
  clear Q e1 e2 e3 V f1 f2 f3 p1 p2 p3 p4 p5 p6 g
  obtain ⟨gm,gl,g0,g1,Z,⟨k1,k2,k3,k4⟩,⟨l1,l2,l3,l4⟩,⟨n1,n2,n3,n4,n5,n6⟩,R⟩:=hcut
  have d0:=aF Z (k:=0) rfl
  have d1:=aF Z (k:=1) rfl
  have d2:=aF Z (k:=2) rfl
  have d3:=aF Z (k:=3) rfl
  have HP:=Hd (vY R ⟨l1,l2,l3,l4⟩ ⟨n1,n2,n3,n4,n5,n6⟩ k1 k2 k3 k4)
  clear Z k1 k2 k3 k4 R ah H
  go_wp2_with fail
  exact bodyPost_ret (v := .agg #[.slice (some ⟨gm,0,none⟩) M M,.slice (some ⟨gl,0,none⟩) 2 2,.int .i64 0,.int .i64 0]) (by simp [results,Tryz.results67,go_sem,d0,d1,d2,d3]) rfl HP.out
theorem zt:(Tryz.prog.info? 110).map (fun i=>(i.zero,i.size,i.bytes))=some (some (.agg #[.slice none 0 0,.slice none 0 0,.int .i64 0,.int .i64 0]),4,64):=by kernel_rfl
theorem vU (d:Dev) (x:Lay) (SA LA OA BA CA PA RA:Option Addr) (sn sc ln lc on oc bn bc cn cc pn pc rn rc:Nat) (w:World) (h:lK w x SA LA OA BA CA PA RA sn sc ln lc on oc bn bc cn cc pn pc rn rc) (hl:EY x 1048576) (dZ:pn<=pc) (aY:pc<=1048576) :
  Calls Tryz.prog 19 #[.agg (dv d),vR x SA LA OA BA CA PA RA sn sc ln lc on oc bn bc cn cc pn pc rn rc] w fun e w'=>∃S n c,e = .returned (.tuple #[.slice S n c,.bool (tb (jB d x))])/\aJ w w' [.cel (dW (cfgD d x)) (.slice S n c)]:=by
 obtain ⟨bT,b4,cm,cw⟩:=h.lens
 obtain ⟨cQ,cI,dI⟩:=h.net.lens
 have dE:bn<=1048576:=by rw [←bT];exact hl.blocks
 have cV:cn<=1048576:=by rw [←b4];exact hl.conns
 obtain ⟨be,eo,ek,bV,cx,d3,H1,bA⟩:=hd8 bT cm b4 cw cQ cI h hl
 clear h hl bT b4 cm cw cQ cI dI
 have D:=Hd (aB (aB (Below.refl w.heap.size w) (.cells (dv d) 36)) (.cells #[.int .i64 x.net.inputs,.slice SA sn sc,.slice LA ln lc,.slice OA on oc,.slice BA bn bc,.slice CA cn cc,.slice PA pn pc,.slice RA rn rc] 46))
 have h1:=aW (.cells #[.int .i64 x.net.inputs,.slice SA sn sc,.slice LA ln lc,.slice OA on oc,.slice BA bn bc,.slice CA cn cc,.slice PA pn pc,.slice RA rn rc] 46) (aI w (.cells (dv d) 36))
 have h2:=aI (w.alloc (.cells (dv d) 36)) (.cells #[.int .i64 x.net.inputs,.slice SA sn sc,.slice LA ln lc,.slice OA on oc,.slice BA bn bc,.slice CA cn cc,.slice PA pn pc,.slice RA rn rc] 46)
 simp only [World.size_alloc] at h2
 obtain ⟨aj,J⟩:=hd2 h1 h2
 clear h1 h2
 go_enter Tryz.func19,Tryz.ntmps19
 go_upto_region 1 with fail
 obtain ⟨gX,b6⟩:∃g,w.heap.size=g:=⟨_,rfl⟩
 obtain ⟨gY,bt⟩:∃g,gX+1=g:=⟨_,rfl⟩
 generalize (w.alloc (.cells (dv d) 36)).alloc (.cells #[.int .i64 x.net.inputs,.slice SA sn sc,.slice LA ln lc,.slice OA on oc,.slice BA bn bc,.slice CA cn cc,.slice PA pn pc,.slice RA rn rc] 46)=R at *
 rw [b6] at aj J
 rw [bt] at J
 (try rw [b6])
 (try rw [bt])
 clear b6 bt
 obtain ⟨x0,x1,x2,x3,lx⟩:=cO (aD (Below.refl R.heap.size R) aj.out)
 obtain ⟨y0,y1,y2,y3,y4,y5,y6,y7,ly⟩:=mK (aD (Below.refl R.heap.size R) J.out)
 have Z:=Hd ((aJ.nil (Below.refl R.heap.size R)).pushNew 110 4)
 clear x0 x1 x2 x3 lx y0 y1 y2 y3 y4 y5 y6 y7 ly
 go_upto_region 2 with fail
 obtain ⟨g0,bu⟩:∃g,R.heap.size=g:=⟨_,rfl⟩
 rw [bu] at Z
 (try rw [bu])
 clear bu
 generalize R.alloc (.cells #[] 110)=w0 at *
 have al:=Hd (aA D.out Z.out.bel)
 obtain ⟨x0,x1,x2,x3,lx⟩:=cO (aD Z.out.bel aj.out)
 obtain ⟨y0,y1,y2,y3,y4,y5,y6,y7,ly⟩:=mK (aD Z.out.bel J.out)
 go_wp2_with fail
 refine (vv d x SA LA OA BA CA PA RA sn sc ln lc on oc bn bc cn cc pn pc rn rc _ (H1.out.below al.out).net (H1.out.below al.out).bl (H1.out.below al.out).cn (H1.out.below al.out).pl (H1.out.below al.out).ro dE cV dZ aY bA.out.les bA.out.sinks bA.out.nodes).mono ?_
 by_cases hf:jB d x
 ·rw [ae hf]
  rintro _ w1 ⟨rfl,b1⟩
  have B1:=Hd (Z.out.below b1)
  have HF:=Hd hf
  have eR:bn<=64:=by rw [←be.out];exact hf.pack.len
  have fb:ln<=400:=by rw [←d3.out];exact hf.pack.net.nlut
  have fq:rn<=1048576:=by rw [←bV.out,hf.routes.len,ek.out];exact cV
  have fC:=fZ hf.place.dev
  have fL:sn<=12:=by rw [←cx.out];exact hf.pack.net.nseq
  obtain ⟨hN,fw,fF⟩:=lD hf.place.dev
  have dK:=Hd (fun w=>vT d w hf.place.dev)
  have co:=(oC hf.place.dev).2.2.1
  obtain ⟨aL,cH,cS,cP,cR⟩:=info_parts zt
  have a4:=Hd (show Tryz.prog.info? 110=some aL/\aL.zero=some (.agg #[.slice none 0 0,.slice none 0 0,.int .i64 0,.int .i64 0])/\aL.size=4/\aL.bytes=64 from ⟨cH,cS,cP,cR⟩)
  have em:Hid ((d.W * d.H).toNat=oM d):=rfl
  generalize oM d=N at *
  have a3:IntKind.i64.wrap (N:Int)=(N:Int):=IntWalk.i64_in _ (by omega)
  clear b1 hf cH cS cP cR x0 x1 x2 x3 lx y0 y1 y2 y3 y4 y5 y6 y7 ly
  have G:Hid (aJ R w1 [.cel (dW (List.replicate 0 (emT d))) (.slice (some ⟨g0,0,none⟩) 0 0)]):=B1
  go_wp2_with fail
  go_loopw [6,7] (fun v i wr=>∃(k:Nat) (A:Option Addr) (c:Nat),k<=N/\i = .int .i64 (k:Int)/\v = .slice A k c/\aJ R wr [.cel (dW (List.replicate k (emT d))) (.slice A k c)]) (fun _ i _=>N - (intOf i).toNat)
  ·exact ⟨0,some ⟨g0,0,none⟩,0,by omega,rfl,rfl,G.out⟩
  obtain ⟨k,A,c,hk,rfl,rfl,hs⟩:=hrel
  have HS:=Hd hs
  clear hs
  obtain ⟨x0,x1,x2,x3,lx⟩:=cO (aD HS.out.bel aj.out)
  by_cases dd:k<N
  ·have bP:=dT (by omega:k<N)
   go_wp2_with fail
   refine (dK.out _).mono ?_
   rintro _ w5 h5
   obtain ⟨v0,v1,rfl,s5⟩:=wu h5 co
   have d8:=Hd (HS.out.join s5)
   clear h5 s5 x0 x1 x2 x3 lx
   go_wp2_with (at_builtin;refine gQ rfl _ _ 58 110 rfl aL _ 4 64 Tryz.underlying58 a4.out.1 a4.out.2.1 a4.out.2.2.1 a4.out.2.2.2 rfl (by decide) (by decide) _ (d8.out.alloc _) 0 1 (by decide) k c _ A ((List.replicate k (emT d)).flatMap bC.cells) _ #[v0,v1,.int .i64 0,.int .i64 0] _ rfl rfl rfl rfl (aI _ _) rfl (by omega) ?_;intro g9 ft w9 S9 fE)
   go_roundw
   ·exact ⟨k+1,_,_,by omega,by go_num,rfl,by rw [zO];exact S9.sub (List.Sublist.cons_cons _ (List.nil_sublist _))⟩
   simp [intOf];omega
  have aZ:k=N:=by omega
  subst aZ
  have bP:decide ((k:Int)<(k:Int))=false:=by simp
  obtain ⟨N,rfl⟩:∃y,y=k:=⟨k,rfl⟩
  obtain ⟨gT,hA,_⟩:=oJ HS.out 0 rfl (t:=0) (by rw [List.length_replicate];omega) 2 (by decide)
  have d5:=Hd hA
  clear hA hk
  obtain rfl:=d5.out
  go_upto_region 8 with fail
  go_wp2_with fail
  refine (eH d _ (by have:=ay HF.out.place.dev;omega) (by have:=ay HF.out.place.dev;omega)).mono ?_
  rintro _ w3 ⟨rfl,b3⟩
  have b8:Hid (aJ R w3 [.cel (dW (jI d x 0)) (.slice (some ⟨gT,0,none⟩) N c)]):=by show aJ _ _ _;unfold jI;rw [em.out];exact HS.out.below b3
  obtain ⟨p,hp⟩:∃p,aV d=p:=⟨_,rfl⟩
  (try rw [hp])
  have dU:=Hd hp
  clear hp b3 HS x0 x1 x2 x3 lx
  go_wp2_with fail
  go_loopw [9] (fun i wr=>∃q:Nat,q<=rn/\i = .int .i64 (q:Int)/\aJ R wr [.cel (dW (jI d x q)) (.slice (some ⟨gT,0,none⟩) N c)]) (fun i _=>rn - (intOf i).toNat)
  ·exact ⟨0,by omega,rfl,b8.out⟩
  obtain ⟨q,hq,rfl,hs⟩:=hrel
  have G:=Hd hs
  clear hs
  obtain ⟨-,-,-,-,-,-,-,y7,ly⟩:=mK (aD G.out.bel J.out)
  by_cases ex:q<rn
  ·have el:=dT (by omega:q<rn)
   have bD:q<x.routes.length:=by rw [bV.out];exact ex
   obtain ⟨gq,oq,NA,nm,nc,FA,fm,fc,cC,bU,c0,c1,rN,rF⟩:=H1.out.ro.rou (k:=q) bD
   have ar:=(HF.out.routes.fit q (by rw [←HF.out.routes.len];exact bD)).2
   have aq:=Hd (aA D.out G.out.bel)
   rw [←aq.out.cell (p:=⟨gq,oq+q * 2,none⟩) bU] at c0
   rw [←aq.out.cell (p:=⟨gq,oq+q * 2+1,none⟩) bU] at c1
   have eb:=aK aq.out bU
   have bH:=(qd HF.out.routes HF.out.place.dev q (by omega)).1
   obtain ⟨r,hr⟩:∃r,wW x q=r:=⟨_,rfl⟩
   have B:jI d x (q+1)=kC d r (jI d x q) r.nodes.length:=by rw [←hr];rfl
   rw [show x.routes[q]?.getD Rou.zero=r from hr] at rN rF ar
   obtain ⟨cz,aE⟩:=hd2 ar rN.ints
   have eT:nm<=1000:=by rw [←aE.out.1];have:=ar.len.2;omega
   have c7:=Hd rF.ints
   have ck:1<=nm:=by rw [←aE.out.1];exact ar.len.1
   have c9:=Hd (⟨fun m h0 hm=>rO ar h0 hm⟩:Es d r)
   obtain ⟨TS,cK⟩:∃y,jI d x q=y:=⟨_,rfl⟩
   rw [cK] at bH B G
   obtain ⟨ew,dJ,dB⟩:=hd3 bH B cC
   clear rN rF ar hr cK bH B cC bD
   obtain rfl:=dB.out
   obtain ⟨q0,q1⟩:=ib (by omega:q<rn)
   have bz:=G.out.pushBlk #[.slice NA nm nc,.slice FA fm fc] 114
   go_upto_region 14 with fail
   obtain ⟨gr,bY⟩:∃g,wr.heap.size=g:=⟨_,rfl⟩
   rw [bY] at bz
   (try rw [bY])
   have b8:=Hd bz
   clear bY bz c0 c1 eb aq G y7 ly
   generalize wr.alloc (.cells #[.slice NA nm nc,.slice FA fm fc] 114)=W1 at *
   go_loopw [11] (fun i wr=>∃j:Nat,1<=j/\j<=nm/\i = .int .i64 (j:Int)/\aJ R wr [.cel (dW (kC d r TS j)) (.slice (some ⟨gT,0,none⟩) N c),.blk gr #[.slice NA nm nc,.slice FA fm fc] 114]) (fun i _=>nm - (intOf i).toNat)
   ·exact ⟨1,by omega,ck,rfl,by rw [show kC d r TS 1=TS from if_pos rfl];exact b8.out⟩
   obtain ⟨j,fk,hj,rfl,hs⟩:=hrel
   have HS:=Hd hs
   clear hs
   obtain ⟨r0,lr⟩:=wO ((HS.out.blk 1 rfl).1)
   by_cases bS:j<nm
   ·have dX:=dT (by omega:j<nm)
    have cE:j<r.nodes.length:=by rw [aE.out.1];exact bS
    obtain ⟨bN,oN,c5,bb,a6⟩:=aE.out.2 (by omega)
    have bB:=a6 j bS
    have cu:=((aA D.out HS.out.bel).cell (p:=⟨bN,oN+j,none⟩) bb).trans (a6 j bS)
    have dA:=aK (aA D.out HS.out.bel) bb
    obtain ⟨eg,dH⟩:=hd2 a6 c5
    clear a6 c5
    obtain rfl:=dH.out
    obtain ⟨j0,j1⟩:=ib (by omega:j<nm)
    obtain ⟨au,br⟩:=c9.out.nod j (by omega) cE
    obtain ⟨a0,a1,a2,a3⟩:=um au
    have aQ:fP d (r.nodes[j]?.getD 0)=true:=by unfold bQ at au;simp only [Bool.and_eq_true] at au;exact au.1
    obtain ⟨_,_,_,_,_,b0,b1⟩:=il aQ
    have aY:=eP HF.out.place.dev
    have V:=(cz.out.step j (by omega) cE).1
    have bh:=(sI HF.out.place.dev c9.out ew.out j (by omega)).1
    have B:kC d r TS (j+1)=Ci d r j (kC d r TS j):=if_neg (by omega)
    unfold Ci at B
    have Q:=bh.mux ((r.nodes[j]?.getD 0) / aV d).toNat (by rw [bh.len];omega)
    have bR:=bh.len
    have dc:r.from_.length=fm:=c7.out.1
    have cr:fm=nm:=by rw [←dc,cz.out.same,aE.out.1]
    obtain ⟨bF,oF,cU,dC,cN⟩:=c7.out.2 (by omega)
    have cf:=cN j (by omega)
    obtain ⟨F,hF⟩:∃F:Nat,r.from_[j]?.getD 0=(F:Int):=⟨_,(Int.toNat_of_nonneg V.1).symm⟩
    rw [hF] at cf V B
    rw [Int.toNat_natCast] at B
    have cs:=eg.out F (by omega)
    obtain ⟨n,hn⟩:∃n,r.nodes[j]?.getD 0=n:=⟨_,rfl⟩
    obtain ⟨S,hS⟩:∃n,r.nodes[F]?.getD 0=n:=⟨_,rfl⟩
    rw [hn] at bB cu B a0 a1 a2 a3 b0 b1 Q au br aQ
    rw [hS] at B cs
    obtain ⟨TJ,cB⟩:∃y,kC d r TS j=y:=⟨_,rfl⟩
    rw [cB] at B Q bR HS
    obtain ⟨T,u⟩:∃T:Nat,n / aV d=(T:Int):=⟨_,(Int.toNat_of_nonneg a0).symm⟩
    obtain ⟨K,hK⟩:∃K:Nat,n % aV d=(K:Int):=⟨_,(Int.toNat_of_nonneg b0).symm⟩
    obtain ⟨KI,bW⟩:∃K:Nat,Ab d n=(K:Int):=⟨_,(Int.toNat_of_nonneg a2).symm⟩
    have a8:(KI:Int)=if 7<=(K:Int) then (K:Int) - 2 else (K:Int):=by rw [←bW,←hK];rfl
    rw [u] at B Q a1
    rw [hK] at b1
    rw [bW] at B a3
    rw [Int.toNat_natCast] at B Q
    rw [Int.toNat_natCast] at B
    have Y:=Hd B
    have cd:=(il aQ).2.1
    have ei:=(il aQ).2.2.1
    rw [dU.out] at u hK aY b1
    have e1:n.tmod p=(K:Int):=by rw [Int.tmod_eq_emod_of_nonneg cd,hK]
    have e3:IntKind.i64.wrap (n.tdiv p)=(T:Int):=by rw [IntWalk.i64_quo _ _ ⟨cd,by omega,by omega⟩,u]
    have e2:¬p=0:=by omega
    have dL:Hid (∀v,Below w.heap.size w v→v.cell? ⟨bN,oN+j,none⟩=some (.int .i64 n)):=fun v hv=>(hv.cell (p:=⟨bN,oN+j,none⟩) bb).trans bB
    have av:Hid (T<TJ.length):=by show _<_;rw [bR];omega
    have c3:Hid (KI<(tAt TJ T).mux.length):=by show _<_;rw [Q];omega
    have ev:Hid (∀v,Below w.heap.size w v→v.cell? ⟨bF,oF+j,none⟩=some (.int .i64 (F:Int))):=fun v hv=>(hv.cell (p:=⟨bF,oF+j,none⟩) dC).trans cf
    have dt:Hid (∀v,Below w.heap.size w v→v.cell? ⟨bN,oN+F,none⟩=some (.int .i64 S)):=fun v hv=>(hv.cell (p:=⟨bN,oN+F,none⟩) bb).trans cs
    have dS:=Hd cU
    have eX:T<N:=by omega
    clear B Q bR cN cf cs hn hS cB u bW au br aQ a0 a1 a2 a3 b0 bh hF dc cU hK
    obtain rfl:=dS.out
    obtain ⟨t0,t1⟩:=ib (by omega:T<N)
    obtain ⟨f0,f1⟩:=ib (by omega:F<nm)
    have f2:F<nm:=by omega
    have j2:(j:Int)<(fm:Int):=by omega
    have j3:j<fm:=by omega
    have k9:(K:Int)<100:=by omega
    have e4:IntKind.i64.wrap (K:Int)=(K:Int):=IntWalk.i64_in _ (by omega)
    clear aY b1 cr bB cd ei
    go_upto_if 64 with fail
    clear cu dA r0 lr
    go_cut [12] (fun k w'=>k = .int .i64 (KI:Int)/\wr=w')
    case first =>
     by_cases h7:(7:Int)<=(K:Int)
     ·have d7:decide ((K:Int)≥7)=true:=decide_eq_true h7
      go_upto_region 19 with fail
      go_meet
      exact ⟨by rw [a8,if_pos (by omega)],rfl⟩
     have d7:decide ((K:Int)≥7)=false:=decide_eq_false h7
     go_upto_region 19 with fail
     go_meet
     exact ⟨by rw [a8,if_neg (by omega)],rfl⟩
    obtain ⟨rfl,rfl⟩:=hcut
    clear a8
    obtain ⟨wT,U⟩:∃y,wr.drew=y:=⟨_,rfl⟩
    have HT:Hid (aJ R wT [.cel (dW (TJ)) (.slice (some ⟨gT,0,none⟩) N c),.blk gr #[.slice (some ⟨bN,oN,none⟩) nm nc,.slice (some ⟨bF,oF,none⟩) fm fc] 114]):=Hd (by rw [←U];exact HS.out.drew)
    obtain ⟨bd,sb,ma,mb,hA,a5,cT,ha,bs⟩:=Bn HT.out 0 rfl (t:=T) av.out (k:=KI) c3.out
    injection hA with hA
    injection hA with hA
    subst hA
    obtain ⟨cG,d9⟩:=hd2 bs ha
    clear bs ha
    have fy:KI<ma:=by rw [d9.out];exact c3.out
    have a8:(KI:Int)<(ma:Int):=by omega
    have eY:(0:Int)<=(KI:Int):=by omega
    have I:Hid (∀(v:World),Below wT.heap.size wT v→aJ R v [.cel (dW (TJ)) (.slice (some ⟨gT,0,none⟩) N c),.blk gr #[.slice (some ⟨bN,oN,none⟩) nm nc,.slice (some ⟨bF,oF,none⟩) fm fc] 114]→(v.cell? ⟨gT,T * 4,none⟩=some (.slice (some ⟨sb,0,none⟩) ma mb)/\KD v gX d (v.cell? ⟨gr,0,none⟩=some (.slice (some ⟨bN,oN,none⟩) nm nc)/\v.cell? ⟨gr,1,none⟩=some (.slice (some ⟨bF,oF,none⟩) fm fc)/\v.cell? ⟨bF,oF+j,none⟩=some (.int .i64 (F:Int))/\v.cell? ⟨bN,oN+F,none⟩=some (.int .i64 S)/\v.cell? ⟨bN,oN+j,none⟩=some (.int .i64 n)))):=Hd fun v hv h=>⟨(hv.cell (p:=⟨gT,T * 4,none⟩) a5).trans cT,aF (k:=0) (aD h.bel aj.out) rfl,aF (k:=1) (aD h.bel aj.out) rfl,aF (k:=2) (aD h.bel aj.out) rfl,aF (k:=3) (aD h.bel aj.out) rfl,aF (k:=0) (h.blk 1 rfl).1 rfl,aF (k:=1) (h.blk 1 rfl).1 rfl,ev.out _ (aA D.out h.bel),dt.out _ (aA D.out h.bel),dL.out _ (aA D.out h.bel)⟩
    have bk:=HT.out.bel
    go_upto_region 19 with fail
    refine wp_region_noPanic ?_
    have ak:=I.out _ (Below.refl _ _) HT.out
    rw [←U] at ak
    refine iR 29 (fun w'=>w'.cell? ⟨gT,T * 4,none⟩=some (.slice (some ⟨sb,0,none⟩) ma mb)/\KD w' gX d (w'.cell? ⟨gr,0,none⟩=some (.slice (some ⟨bN,oN,none⟩) nm nc)/\w'.cell? ⟨gr,1,none⟩=some (.slice (some ⟨bF,oF,none⟩) fm fc)/\w'.cell? ⟨bF,oF+j,none⟩=some (.int .i64 (F:Int))/\w'.cell? ⟨bN,oN+F,none⟩=some (.int .i64 S)/\w'.cell? ⟨bN,oN+j,none⟩=some (.int .i64 n))) (ak) (fun u z=>?_)
    rw [U] at z ⊢
    refine onT u 0 opA z ?_
    refine onT u 1 (opB opA) z ?_
    refine onT u 2 (opB (opB opA)) z ?_
    refine onT u 3 (opB (opB (opB opA))) z ?_
    refine onT u 4 (opC opA) z ?_
    refine onT u 5 (opC (opB opA)) z ?_
    refine onT u 6 (opC (opB (opB opA))) z ?_
    refine onT u 7 (opC (opB (opB (opB opA)))) z ?_
    refine onT u 8 (opC (opC opA)) z ?_
    refine onT u 9 (opC (opC (opB opA))) z ?_
    refine onT u 10 (opC (opC (opB (opB opA)))) z ?_
    refine onT u 11 (opC (opC (opB (opB (opB opA))))) z ?_
    refine onT u 12 (opC (opC (opC opA))) z ?_
    refine onT u 13 (opC (opC (opC (opB opA)))) z ?_
    refine onT u 14 (opC (opC (opC (opB (opB opA))))) z ?_
    refine onT u 15 (opC (opC (opC (opB (opB (opB opA)))))) z ?_
    refine onT u 16 (opD opA) z ?_
    refine onT u 17 (opD (opB opA)) z ?_
    refine onT u 18 (opD (opB (opB opA))) z ?_
    refine onT u 19 (opD (opB (opB (opB opA)))) z ?_
    refine onT u 20 (opD (opC opA)) z ?_
    refine onT u 21 (opD (opC (opB opA))) z ?_
    refine onT u 22 (opD (opC (opB (opB opA)))) z ?_
    refine onT u 23 (opD (opC (opB (opB (opB opA))))) z ?_
    refine onT u 24 (opD (opC (opC opA))) z ?_
    refine onT u 25 (opD (opC (opC (opB opA)))) z ?_
    refine onT u 26 (opD (opC (opC (opB (opB opA))))) z ?_
    refine uF u 27 (opD (opC (opC (opB (opB (opB opA)))))) (fun K hK=>?_)
    go_simp
    go_at_call 69
    with_reducible refine (uk d n S _).mono ?_
    rintro _ w7 ⟨rfl,b7⟩
    have b5:=Hd (HT.out.below b7)
    have B7:=Hd b7
    clear b7
    refine hK.out _ _ (I.out _ B7.out b5.out) (fun z=>?_)
    clear hK K
    try simp only [Act.put,List.setIfInBounds_toArray,List.set_cons_zero,List.set_cons_succ]
    refine onT u 28 (opD (opC (opC (opC opA)))) z ?_
    obtain ⟨q8,⟨x8,c8⟩,f8,hu⟩:=cG.out _ B7.out
    refine tF u 29 (opD (opC (opC (opC (opB opA))))) ?_
    go_wp2_with fail
    refine NoPanic.normal ?_
    have ad:=Hd (hu (rP (fe d n) S))
    go_wp2_with fail
    go_roundw
    ·exact ⟨j+1,by omega,by omega,by go_num,by rw [Y.out];exact ad.out⟩
    simp [intOf];omega
   have cW:j=nm:=by omega
   have dX:=dF (by omega:nm<=j)
   have cv:Hid (jI d x (q+1)=kC d r TS j):=by show _=_;rw [dJ.out,aE.out.1,cW]
   clear cW
   go_wp2_with fail
   go_roundw
   ·exact ⟨q+1,by omega,by go_num,by rw [cv.out];exact HS.out.sub (List.Sublist.cons_cons _ (List.nil_sublist _))⟩
   simp [intOf];omega
  have c4:q=rn:=by omega
  have el:=dF (by omega:rn<=q)
  have dD:Hid (aJ R wr [.cel (dW (fH d x 0)) (.slice (some ⟨gT,0,none⟩) N c)]):=by show aJ _ _ _;unfold fH;rw [bV.out,←c4];exact G.out
  clear c4 G
  obtain ⟨wb,rfl⟩:∃y,y=wr:=⟨wr,rfl⟩
  go_wp2_with fail
  clear y7 ly
  go_loopw [13] (fun i wr=>∃k:Nat,k<=bn/\i = .int .i64 (k:Int)/\aJ R wr [.cel (dW (fH d x k)) (.slice (some ⟨gT,0,none⟩) N c)]) (fun i _=>bn - (intOf i).toNat)
  ·exact ⟨0,by omega,rfl,dD.out⟩
  obtain ⟨k,hk,rfl,hs⟩:=hrel
  have G:=Hd hs
  clear hs
  obtain ⟨-,y1,-,-,y4,-,y6,ly⟩:=F4 (aD G.out.bel J.out)
  by_cases dd:k<bn
  ·have bP:=dT (by omega:k<bn)
   have Q:k<x.blocks.length:=by rw [be.out];exact dd
   obtain ⟨gb,ob,EA,en,ec,db,a9,c0,c1,c2,r2⟩:=H1.out.bl.blk (k:=k) Q
   have aC:dM x.net (oH x k):=by unfold oH;rw [List.getElem?_eq_getElem Q];exact HF.out.pack.fit _ (List.getElem_mem Q)
   obtain ⟨bX,ax⟩:=qf HF.out k (by omega)
   have ax:=ax k (Nat.le_refl _) Q
   obtain ⟨p0,p1,p2⟩:=pq HF.out.place Q
   have B:fH d x (k+1)=yz x k (fH d x k):=rfl
   unfold yz at B
   obtain ⟨T,u⟩:∃T,sG x k=T:=⟨_,rfl⟩
   have cY:x.place[k]?.getD 0=(T:Int):=by rw [←u];exact (Int.toNat_of_nonneg p0).symm
   rw [u] at B ax p2
   obtain ⟨TB,cJ⟩:∃y,fH d x k=y:=⟨_,rfl⟩
   rw [cJ] at bX ax B G
   have bq:=bX.len
   have d2:pn=bn:=by rw [←eo.out,←be.out,HF.out.place.same,List.length_map]
   obtain ⟨bp,op,da,cj,cA⟩:=H1.out.pl.ints.2 (by omega)
   have cp:=cA k (by omega)
   rw [cY] at cp
   have dV:Hid (∀v,Below w.heap.size w v→v.cell? ⟨bp,op+k,none⟩=some (.int .i64 (T:Int))):=fun v hv=>(hv.cell (p:=⟨bp,op+k,none⟩) cj).trans cp
   obtain ⟨bx,bL⟩:∃b,oH x k=b:=⟨_,rfl⟩
   rw [bL] at aC B
   rw [show x.blocks[k]?.getD Blk.zero=bx from bL] at c0 c1 r2
   have cX:=nU aC
   have aM:=lT aC
   obtain ⟨kd,it,es⟩:=bx
   simp only at c0 c1 aM B
   have HE:=Hd (show RdC w w.heap.size (cZ es) (.slice EA en ec) from r2)
   have dR:Hid (es.length=en):=HE.out.esN
   have ez:en<=2:=by rw [←dR.out];exact aM
   have du:=Hd (show ∀e∈es,dG x.net e from cX)
   obtain ⟨Y,fj⟩:=hd2 B ax
   have av:Hid (T<TB.length):=by show _<_;rw [bq];exact p2
   have eW:T<N:=by omega
   obtain ⟨et,ed⟩:=hd2 db da
   have c6:Hid (∀v,Below w.heap.size w v→v.cell? ⟨gb,ob+k * 3,none⟩=some (.int .i64 kd)):=fun v hv=>(hv.cell (p:=⟨gb,ob+k * 3,none⟩) a9).trans c0
   have ct:Hid (∀v,Below w.heap.size w v→v.cell? ⟨gb,ob+k * 3+1,none⟩=some (.int .i64 it)):=fun v hv=>(hv.cell (p:=⟨gb,ob+k * 3+1,none⟩) a9).trans c1
   have ep:Hid (∀v,Below w.heap.size w v→v.cell? ⟨gb,ob+k * 3+2,none⟩=some (.slice EA en ec)):=fun v hv=>(hv.cell (p:=⟨gb,ob+k * 3+2,none⟩) a9).trans c2
   clear c0 c1 c2 bL cX aM r2 db B Q ax bX bq cJ u cY p0 p1 p2 cA cp da
   obtain rfl:=et.out
   obtain rfl:=ed.out
   obtain ⟨i0,i1⟩:=ib (by omega:k<bn)
   have i2:(k:Int)<(pn:Int):=by omega
   have i3:k<pn:=by omega
   obtain ⟨t0,t1⟩:=ib (by omega:T<N)
   clear d2
   have cp:=dV.out _ (aA D.out G.out.bel)
   have cq:=aK (aA D.out G.out.bel) cj
   have c0:=c6.out _ (aA D.out G.out.bel)
   have cD:=aK (aA D.out G.out.bel) a9
   by_cases aX:kd=0
   ·subst aX
    obtain ⟨bd,hA,a5,⟨xT,cT⟩,fT,V⟩:=oJ G.out 0 rfl (t:=T) av.out 2 (by decide)
    injection hA with hA
    injection hA with hA
    subst hA
    have ad:=Hd (V (1))
    have ao:Hid (fH d x (k+1)=setPad TB T (1)):=by show _=_;rw [Y.out];rfl
    clear V
    go_wp2_with fail
    go_roundw
    ·exact ⟨k+1,by omega,by go_num,by rw [ao.out];exact ad.out⟩
    simp [intOf];omega
   have fg:(kd==0)=false:=by simp [aX]
   rw [if_neg aX] at Y
   by_cases bf:kd=1
   ·subst bf
    obtain ⟨bd,hA,a5,⟨xT,cT⟩,fT,V⟩:=oJ G.out 0 rfl (t:=T) av.out 2 (by decide)
    injection hA with hA
    injection hA with hA
    subst hA
    have ad:=Hd (V (2))
    have ao:Hid (fH d x (k+1)=setPad TB T (2)):=by show _=_;rw [Y.out];rfl
    clear V
    go_wp2_with fail
    go_roundw
    ·exact ⟨k+1,by omega,by go_num,by rw [ao.out];exact ad.out⟩
    simp [intOf];omega
   have fa:(kd==1)=false:=by simp [bf]
   rw [if_neg bf] at Y
   by_cases bj:kd=2
   ·subst bj
    have dy:0<=it/\it<(x.net.seqs.length:Int):=jW.1 aC.1
    obtain ⟨X,hX⟩:∃X:Nat,it=(X:Int):=⟨it.toNat,by omega⟩
    subst hX
    have cl:X<x.net.seqs.length:=by omega
    have fh:X<sn:=by rw [←cx.out];exact cl
    obtain ⟨sb,so,IA,im,ic,cM,d6,_,d1,_,_⟩:=H1.out.net.sq.sq' (k:=X) cl
    have dY:=Hd cM
    rw [Int.toNat_natCast] at Y
    generalize (x.net.seqs[X]?.getD Sq.zero).init=ii at *
    have dN:Hid (∀v,Below w.heap.size w v→v.cell? ⟨sb,so+X * 3+1,none⟩=some (.int .i64 ii)):=fun v hv=>(hv.cell (p:=⟨sb,so+X * 3+1,none⟩) d6).trans d1
    clear cM dy d1
    obtain rfl:=dY.out
    obtain ⟨eU,fK⟩:=ib (by omega:X<sn)
    go_upto_region 31 with fail
    clear cp cq c0 cD y1 y4 y6 ly
    obtain ⟨wT,U⟩:∃y,wr.drew=y:=⟨_,rfl⟩
    have HT:Hid (aJ R wT [.cel (dW (TB)) (.slice (some ⟨gT,0,none⟩) N c)]):=Hd (by rw [←U];exact G.out.drew)
    have I:Hid (∀(v:World),Below wT.heap.size wT v→aJ R v [.cel (dW (TB)) (.slice (some ⟨gT,0,none⟩) N c)]→(v.cell? ⟨gY,1,none⟩=some (.slice (some ⟨sb,so,none⟩) sn sc)/\v.cell? ⟨gY,4,none⟩=some (.slice (some ⟨gb,ob,none⟩) bn bc)/\v.cell? ⟨gb,ob+k * 3+1,none⟩=some (.int .i64 (X:Int))/\v.cell? ⟨sb,so+X * 3+1,none⟩=some (.int .i64 ii))):=Hd fun v hv h=>⟨aF (k:=1) (aD h.bel J.out) rfl,aF (k:=4) (aD h.bel J.out) rfl,ct.out _ (aA D.out h.bel),dN.out _ (aA D.out h.bel)⟩
    have bk:=HT.out.bel
    refine wp_region_noPanic ?_
    have ak:=I.out _ (Below.refl _ _) HT.out
    rw [←U] at ak
    refine iR 14 (fun w'=>w'.cell? ⟨gY,1,none⟩=some (.slice (some ⟨sb,so,none⟩) sn sc)/\w'.cell? ⟨gY,4,none⟩=some (.slice (some ⟨gb,ob,none⟩) bn bc)/\w'.cell? ⟨gb,ob+k * 3+1,none⟩=some (.int .i64 (X:Int))/\w'.cell? ⟨sb,so+X * 3+1,none⟩=some (.int .i64 ii)) (ak) (fun u z=>?_)
    rw [U] at z ⊢
    refine onT u 0 opA z ?_
    refine onT u 1 (opB opA) z ?_
    refine onT u 2 (opB (opB opA)) z ?_
    refine onT u 3 (opB (opB (opB opA))) z ?_
    refine onT u 4 (opC opA) z ?_
    refine onT u 5 (opC (opB opA)) z ?_
    refine onT u 6 (opC (opB (opB opA))) z ?_
    refine onT u 7 (opC (opB (opB (opB opA)))) z ?_
    refine onT u 8 (opC (opC opA)) z ?_
    refine onT u 9 (opC (opC (opB opA))) z ?_
    refine onT u 10 (opC (opC (opB (opB opA)))) z ?_
    refine onT u 11 (opC (opC (opB (opB (opB opA))))) z ?_
    refine onT u 12 (opC (opC (opC opA))) z ?_
    refine onT u 13 (opC (opC (opC (opB opA)))) z ?_
    refine CJ u 14 (opC (opC (opC (opB (opB opA))))) ?_
    refine CJ u 15 (opC (opC (opC (opB (opB (opB opA)))))) ?_
    obtain ⟨bd,hA,a5,⟨xT,cT⟩,fT,V⟩:=oJ HT.out 0 rfl (t:=T) av.out 3 (by decide)
    injection hA with hA
    injection hA with hA
    subst hA
    refine tF u 16 (opD opA) ?_
    go_wp2_with fail
    refine NoPanic.normal ?_
    have ad:=Hd (V ii)
    have ao:Hid (fH d x (k+1)=setRam TB T ii):=by show _=_;rw [Y.out];rfl
    clear V
    go_wp2_with fail
    go_roundw
    ·exact ⟨k+1,by omega,by go_num,by rw [ao.out];exact ad.out⟩
    simp [intOf];omega
   have fB:(kd==2)=false:=by simp [bj]
   rw [if_neg bj] at Y
   have dQ:kd=3:=by have:=iL aC.1;omega
   subst dQ
   clear aX bf bj aC
   go_upto_region 25 with fail
   clear cp cq c0 cD y1 y4 y6 ly
   obtain ⟨wT,U⟩:∃y,wr.drew=y:=⟨_,rfl⟩
   have HT:Hid (aJ R wT [.cel (dW (TB)) (.slice (some ⟨gT,0,none⟩) N c)]):=Hd (by rw [←U];exact G.out.drew)
   have I:Hid (∀(v:World),Below wT.heap.size wT v→aJ R v [.cel (dW (TB)) (.slice (some ⟨gT,0,none⟩) N c)]→(K5 v gY (.int .i64 x.net.inputs) (.slice SA sn sc) (.slice LA ln lc) (.slice OA on oc) (.slice (some ⟨gb,ob,none⟩) bn bc) (v.cell? ⟨gb,ob+k * 3,none⟩=some (.int .i64 3)/\v.cell? ⟨gb,ob+k * 3+1,none⟩=some (.int .i64 it)/\v.cell? ⟨gb,ob+k * 3+2,none⟩=some (.slice EA en ec)))):=Hd fun v hv h=>⟨aF (k:=0) (aD h.bel J.out) rfl,aF (k:=1) (aD h.bel J.out) rfl,aF (k:=2) (aD h.bel J.out) rfl,aF (k:=3) (aD h.bel J.out) rfl,aF (k:=4) (aD h.bel J.out) rfl,c6.out _ (aA D.out h.bel),ct.out _ (aA D.out h.bel),ep.out _ (aA D.out h.bel)⟩
   have bk:=HT.out.bel
   refine wp_region_noPanic ?_
   have ak:=I.out _ (Below.refl _ _) HT.out
   rw [←U] at ak
   refine iR 10 (fun w'=>K5 w' gY (.int .i64 x.net.inputs) (.slice SA sn sc) (.slice LA ln lc) (.slice OA on oc) (.slice (some ⟨gb,ob,none⟩) bn bc) (w'.cell? ⟨gb,ob+k * 3,none⟩=some (.int .i64 3)/\w'.cell? ⟨gb,ob+k * 3+1,none⟩=some (.int .i64 it)/\w'.cell? ⟨gb,ob+k * 3+2,none⟩=some (.slice EA en ec))) (ak) (fun u z=>?_)
   rw [U] at z ⊢
   refine onT u 0 opA z ?_
   refine onT u 1 (opB opA) z ?_
   refine onT u 2 (opB (opB opA)) z ?_
   refine onT u 3 (opB (opB (opB opA))) z ?_
   refine onT u 4 (opC opA) z ?_
   refine onT u 5 (opC (opB opA)) z ?_
   refine onT u 6 (opC (opB (opB opA))) z ?_
   refine onT u 7 (opC (opB (opB (opB opA)))) z ?_
   refine onT u 8 (opC (opC opA)) z ?_
   refine uF u 9 (opC (opC (opB opA))) (fun K hK=>?_)
   go_simp
   go_at_call 70
   with_reducible refine (yJ x.net SA LA OA sn sc ln lc on oc it es EA en ec _ (H1.out.net.below (aA D.out bk)) HF.out.pack.net (HE.out.below (aA D.out bk)) du.out ez).mono ?_
   rintro _ w7 ⟨Sx,mx,qx,rfl,s7⟩
   have b5:=Hd (HT.out.below s7.bel)
   have B7:=Hd s7.bel
   have S7:=Hd (HT.out.join s7)
   clear s7
   refine hK.out _ _ (I.out _ B7.out b5.out) (fun z=>?_)
   clear hK K
   try simp only [Act.put,List.setIfInBounds_toArray,List.set_cons_zero,List.set_cons_succ]
   refine CJ u 10 (opC (opC (opB (opB opA)))) ?_
   refine CJ u 11 (opC (opC (opB (opB (opB opA))))) ?_
   obtain ⟨bd,hA,q8,⟨x8,c8⟩,f8,hu⟩:=Ez S7.out 0 1 (by decide) rfl (t:=T) av.out rfl
   injection hA with hA
   injection hA with hA
   subst hA
   refine tF u 12 (opC (opC (opC opA))) ?_
   go_wp2_with fail
   refine NoPanic.normal ?_
   have ad:=Hd hu
   have ao:Hid (fH d x (k+1)=setLes TB T (mE x.net es es.length)):=by show _=_;exact Y.out
   clear hu
   go_wp2_with fail
   go_roundw
   ·exact ⟨k+1,by omega,by go_num,by rw [ao.out];exact ad.out.sub (List.Sublist.cons_cons _ (List.nil_sublist _))⟩
   simp [intOf];omega
  have aZ:k=bn:=by omega
  have bP:=dF (by omega:bn<=k)
  have HC:Hid (cfgD d x=fH d x k):=by show _=_;rw [show cfgD d x=ql d x from if_pos HF.out];unfold ql;rw [be.out,aZ]
  have HR:Hid (aJ w wr [.cel (dW (cfgD d x)) (.slice (some ⟨gT,0,none⟩) N c)]):=by
   have h1:=G.out.lowerC D.out (lo:=R.heap.size) (hi:=R.heap.size) D.out.size (Nat.le_refl _) (Chg.refl' _ _ _)
   show aJ _ _ _
   rw [HC.out]
   exact h1
  clear aZ
  go_wp2_with fail
  go_ret2
  exact ⟨some ⟨gT,0,none⟩,N,c,by rw [ae HF.out];rfl,HR.out⟩
 rw [bJ hf]
 rintro _ w1 ⟨rfl,b1⟩
 have HR:Hid (aJ w w1 [.cel (dW (cfgD d x)) (.slice (some ⟨g0,0,none⟩) 0 0)]):=by
  show aJ _ _ _
  rw [show cfgD d x=[] from if_neg hf]
  exact (Z.out.below b1).lowerC D.out (lo:=R.heap.size) (hi:=R.heap.size) D.out.size (Nat.le_refl _) (Chg.refl' _ _ _)
 have cr:=Hd hf
 have ea:=Hd (bJ hf)
 clear b1 hf x0 x1 x2 x3 lx y0 y1 y2 y3 y4 y5 y6 y7 ly
 go_wp2_with fail
 go_ret2
 exact ⟨some ⟨g0,0,none⟩,0,0,by rw [ea.out];rfl,HR.out⟩
end Go.Proofs.YtofihjoanjkdmaaGreat
