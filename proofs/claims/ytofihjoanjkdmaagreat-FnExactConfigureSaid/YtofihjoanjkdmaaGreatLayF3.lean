/- The program's counts of uses (printed by mkuse.py). -/
import Derived.Test.YtofihjoanjkdmaaGreatCopies
import Derived.Test.YtofihjoanjkdmaaGreatLayRd
import Derived.Test.YtofihjoanjkdmaaGreatLayUP
import Derived.Test.YtofihjoanjkdmaaGreatRt4
namespace Go.Proofs.YtofihjoanjkdmaaGreat
set_option maxHeartbeats 4000000
set_option maxRecDepth 100000
open Go.RowKit
theorem wP (l:ag) (SA LA OA:Option Addr) (sn sc ln lc on oc:Nat) (w:World) (h:fU w l SA LA OA sn sc ln lc on oc) (hf:az l) :
  Calls Tryz.prog 248 #[jE l SA LA OA sn sc ln lc on oc] w fun e w'=>∃A,e = .returned (.slice A l.count l.count)/\Own w.heap.size w' A l.count l.count (aG l.count (ko l))/\Below w.heap.size w w':=by
 have bk:=Hd (aB (Below.refl w.heap.size w) (.cells (ai l SA LA OA sn sc ln lc on oc) 41))
 have bo:=Hd (aI w (.cells (ai l SA LA OA sn sc ln lc on oc) 41))
 obtain ⟨a2,aT,a6⟩:=h.lens
 have h1:=hf.nseq
 have h2:=hf.nlut
 have h3:=hf.nout
 have bI:=Hd hf.inp
 have bn:=hf.inp
 obtain ⟨HN,HF,ay,aN,bJ⟩:=hd5 h hf aT a2 a6
 have hC:1+l.inputs+(sn:Int)+(ln:Int)=(l.count:Int):=by unfold ag.count ag.first;omega
 have aV:Hid ((l.first:Int)+(ln:Int)=(l.count:Int)):=by show _=_;unfold ag.count;omega
 obtain ⟨C,aw⟩:∃C,l.count=C:=⟨_,rfl⟩
 have aF:=Hd aw
 rw [aw] at hC
 have bD:C<=433:=by omega
 have G:sn<=12:=by omega
 have bA:ln<=400:=by omega
 have bG:on<=16:=by omega
 obtain ⟨i0,hi,aX,aY,aU⟩:=info_parts jL
 have a3:=fun W=>bv (P:=Tryz.prog) 26 3 i0 _ Tryz.underlying26 hi aX .i64 .i64 C C (Nat.le_refl _) (by rw [aU];omega) (by omega) W
 rw [aY,Nat.mul_one,show (Value.int .i64 0).cells=#[Value.int .i64 0] from rfl,nu] at a3
 have HC:=Hd hC
 rw [aw]
 clear h hf a2 aT a6 h1 h2 h3 aw hi aX aY aU hC
 go_enter Tryz.func248,Tryz.ntmps248
 go_wp2_with fail
 refine (tJ l.inputs SA LA OA sn sc ln lc on oc _ (by omega) (by omega) (by omega) (by omega)).mono ?_
 rw [HC.out]
 rintro _ z ⟨rfl,b1⟩
 have ax:=Hd (aD b1 bo.out)
 have H:=Hd (aA bk.out b1)
 have aQ:=(aJ.refl z).consOwn (aB (Below.refl _ _) (.cells (arr (List.replicate C 0)) 3)) (Own.arr (n:=C) (aI z _) (Nat.le_refl _) (by unfold maxLen;omega) (by simp))
 have bh:=Hd (show aJ z (z.alloc (.cells (arr (List.replicate C 0)) 3)) [.cel (aH (aG C ((l.luts.take 0).flatMap Lt.ins))) (.slice (some ⟨z.heap.size,0,none⟩) C C)] from by
  rw [List.take_zero,List.flatMap_nil,pu]
  exact aQ)
 have a8:=Hd (aD aQ.bel ax.out)
 clear b1 aQ bn
 have hx:=a8.out
 obtain ⟨x0,x1,x2,x3,lx⟩:=cO hx
 have bF:w.heap.size≠z.heap.size:=by have:=aC ax.out;omega
 clear hx
 go_wp2_with fail
 clear x0 x1 x2 x3 lx a3
 go_loopw [20] (fun i wr=>∃k:Nat,k<=ln/\i = .int .i64 (k:Int)/\aJ z wr [.cel (aH (aG C ((l.luts.take k).flatMap Lt.ins))) (.slice (some ⟨z.heap.size,0,none⟩) C C)]) (fun i _=>ln - (intOf i).toNat)
 ·exact ⟨0,by omega,rfl,bh.out⟩
 obtain ⟨k,hk,rfl,hs⟩:=hrel
 have g:=Hd hs
 clear hs
 by_cases au:k<ln
 ·have aE:=dT (by omega:k<ln)
  obtain ⟨b,o,S,m,p,hA,Y,c0,c1,r2⟩:=HN.out.lt.lut' (k:=k) (by rw [ay.out];exact au)
  have U:=aA H.out g.out.bel
  have bd:=aK U Y
  have c0:=(U.cell (p:=⟨b,o+k * 2,none⟩) Y).trans c0
  have c1:=(U.cell (p:=⟨b,o+k * 2+1,none⟩) Y).trans c1
  have aL:=Hd r2
  have Z:k<l.luts.length:=by rw [ay.out];exact au
  have ao:=Hd (show ((l.luts.take k).flatMap Lt.ins)++(l.luts[k]?.getD Lt.zero).ins=(l.luts.take (k+1)).flatMap Lt.ins from by rw [wS Z])
  have ah:Hid (∀n∈(l.luts[k]?.getD Lt.zero).ins,0<=n/\n<(C:Int)):=fun n hn=>by
   have h:=(HF.out.luts k Z).2.2 n hn
   have h2:=aF.out
   have h3:=aV.out
   omega
  have aj:Hid (((l.luts.take k).flatMap Lt.ins).length+(l.luts[k]?.getD Lt.zero).ins.length<=3000):=by
   show _<=_
   have h1:=congrArg List.length ao.out
   rw [List.length_append] at h1
   have h2:=jM HF.out (k+1)
   have h3:=mf HF.out (k+1)
   have h4:=jM HF.out l.luts.length
   rw [List.take_length] at h4
   (try simp only [List.length_append] at h1 ⊢)
   omega
  subst hA
  clear r2 Z
  generalize l.luts[k]?.getD Lt.zero=x at *
  generalize (l.luts.take k).flatMap Lt.ins=BS at *
  have aO:=Hd (g.out.alloc (.cells #[.slice S m p,.int .i64 x.mask] 96))
  obtain ⟨i0,i1⟩:=ib (by omega:k<ln)
  obtain ⟨y0,ly⟩:=wO (aI wr (.cells #[.slice S m p,.int .i64 x.mask] 96))
  obtain ⟨wo,rfl⟩:∃y,y=wr:=⟨wr,rfl⟩
  go_wp2_with fail
  clear c0 c1 y0 ly
  go_loopw [27] (fun i wr=>∃j:Nat,j<=m/\i = .int .i64 (j:Int)/\aJ z wr [.cel (aH (aG C (lI (BS) (x.ins) j))) (.slice (some ⟨z.heap.size,0,none⟩) C C)]) (fun i _=>m - (intOf i).toNat)
  ·exact ⟨0,by omega,rfl,by rw [mg];exact aO.out⟩
  obtain ⟨j,hj,rfl,hs⟩:=hrel
  have g:=Hd hs
  have u:=Hd (aL.out.ints)
  by_cases D:j<m
  ·have am:=dT (by omega:j<m)
   obtain ⟨bt,ot,hA,I,J⟩:=u.out.2 (by omega)
   have HA:=Hd hA
   have ar:=((aA H.out hs.bel).cell (p:=⟨bt,ot+j,none⟩) I).trans (J j D)
   have aW:=aK (aA H.out hs.bel) I
   have B:j<(x.ins).length:=by rw [u.out.1];exact D
   have V:=ah.out _ (List.getElem_mem B)
   have G:=mi (bs:=BS) B
   rw [List.getElem?_eq_getElem B,Option.getD_some] at ar G
   have K:=ol (BS) (x.ins) j
   have Q:=aj.out
   have ap:=u.out.1
   generalize (x.ins)[j]=x at *
   obtain ⟨X,rfl⟩:=Int.eq_ofNat_of_zero_le V.1
   have al:X<C:=by omega
   obtain ⟨cX,fX,lX,hN⟩:=om hs al
   rw [G] at hN
   have af:=fC (lI (BS) (x.ins) j) (X:Int)
   have ak:=Hd hN
   clear hN G J hs
   generalize cnt (lI (BS) (x.ins) j) (X:Int)=q at *
   have hq:q<=10000:=by omega
   have a0:j<=10000:=by omega
   clear af K Q ap B V
   obtain ⟨i0,i1⟩:=ib (by omega:j<m)
   obtain ⟨i2,i3⟩:=ib (by omega:X<C)
   subst hA
   go_wp2_with fail
   go_roundw
   ·exact ⟨j+1,by omega,by go_num,ak.out⟩
   simp [intOf];omega
  have R:j=m:=by omega
  have am:=dF (by omega:m<=j)
  have HD:=Hd (show aJ z wr [.cel (aH (aG C ((BS)++(x.ins)))) (.slice (some ⟨z.heap.size,0,none⟩) C C)] from by rw [←mh u.out.1,←R];exact hs)
  clear hs u g R
  have aP:=Hd (show aJ z wr [.cel (aH (aG C ((l.luts.take (k+1)).flatMap Lt.ins))) (.slice (some ⟨z.heap.size,0,none⟩) C C)] from by rw [←ao.out];exact HD.out)
  go_wp2_with fail
  go_roundw
  ·exact ⟨k+1,by omega,by go_num,aP.out⟩
  simp [intOf];omega
 have aq:k=ln:=by omega
 have aE:=dF (by omega:ln<=k)
 have bm:=Hd (show aJ z wr [.cel (aH (aG C (l.luts.flatMap Lt.ins++(l.seqs.take 0).flatMap Sq.ins))) (.slice (some ⟨z.heap.size,0,none⟩) C C)] from by
  have h:=g.out
  rw [aq,←ay.out,List.take_length] at h
  simpa using h)
 obtain ⟨-,x1,lx⟩:=jv (aD g.out.bel ax.out)
 clear aq g
 obtain ⟨wo,rfl⟩:∃y,y=wr:=⟨wr,rfl⟩
 go_wp2_with fail
 clear x1 lx
 go_loopw [42] (fun i wr=>∃k:Nat,k<=sn/\i = .int .i64 (k:Int)/\aJ z wr [.cel (aH (aG C (l.luts.flatMap Lt.ins++(l.seqs.take k).flatMap Sq.ins))) (.slice (some ⟨z.heap.size,0,none⟩) C C)]) (fun i _=>sn - (intOf i).toNat)
 ·exact ⟨0,by omega,rfl,bm.out⟩
 obtain ⟨k,hk,rfl,hs⟩:=hrel
 have g:=Hd hs
 clear hs
 by_cases au:k<sn
 ·have aE:=dT (by omega:k<sn)
  obtain ⟨b,o,S,m,p,hA,Y,c0,c1,c2,r2⟩:=HN.out.sq.sq' (k:=k) (by rw [aN.out];exact au)
  have U:=aA H.out g.out.bel
  have bd:=aK U Y
  have c0:=(U.cell (p:=⟨b,o+k * 3,none⟩) Y).trans c0
  have c1:=(U.cell (p:=⟨b,o+k * 3+1,none⟩) Y).trans c1
  have c2:=(U.cell (p:=⟨b,o+k * 3+2,none⟩) Y).trans c2
  have aL:=Hd r2
  have Z:k<l.seqs.length:=by rw [aN.out];exact au
  have ao:=Hd (show (l.luts.flatMap Lt.ins++(l.seqs.take k).flatMap Sq.ins)++(l.seqs[k]?.getD Sq.zero).ins=l.luts.flatMap Lt.ins++(l.seqs.take (k+1)).flatMap Sq.ins from by rw [List.append_assoc,uZ Z])
  have ah:Hid (∀n∈(l.seqs[k]?.getD Sq.zero).ins,0<=n/\n<(C:Int)):=fun n hn=>by
   have h:=(HF.out.seqs k Z).2 n hn
   have h2:=aF.out
   have h3:=aV.out
   omega
  have aj:Hid ((l.luts.flatMap Lt.ins++(l.seqs.take k).flatMap Sq.ins).length+(l.seqs[k]?.getD Sq.zero).ins.length<=3000):=by
   show _<=_
   have h1:=congrArg List.length ao.out
   rw [List.length_append] at h1
   have h2:=jM HF.out (k+1)
   have h3:=mf HF.out (k+1)
   have h4:=jM HF.out l.luts.length
   rw [List.take_length] at h4
   (try simp only [List.length_append] at h1 ⊢)
   omega
  subst hA
  clear r2 Z
  generalize l.seqs[k]?.getD Sq.zero=x at *
  generalize l.luts.flatMap Lt.ins++(l.seqs.take k).flatMap Sq.ins=BS at *
  have aO:=Hd (g.out.alloc (.cells #[.int .i64 x.kind,.int .i64 x.init,.slice S m p] 91))
  obtain ⟨i0,i1⟩:=ib (by omega:k<sn)
  obtain ⟨-,-,y2,ly⟩:=jX (aI wr (.cells #[.int .i64 x.kind,.int .i64 x.init,.slice S m p] 91))
  obtain ⟨wo,rfl⟩:∃y,y=wr:=⟨wr,rfl⟩
  go_wp2_with fail
  clear c0 c1 c2 y2 ly
  go_loopw [49] (fun i wr=>∃j:Nat,j<=m/\i = .int .i64 (j:Int)/\aJ z wr [.cel (aH (aG C (lI (BS) (x.ins) j))) (.slice (some ⟨z.heap.size,0,none⟩) C C)]) (fun i _=>m - (intOf i).toNat)
  ·exact ⟨0,by omega,rfl,by rw [mg];exact aO.out⟩
  obtain ⟨j,hj,rfl,hs⟩:=hrel
  have g:=Hd hs
  have u:=Hd (aL.out.ints)
  by_cases D:j<m
  ·have am:=dT (by omega:j<m)
   obtain ⟨bt,ot,hA,I,J⟩:=u.out.2 (by omega)
   have HA:=Hd hA
   have ar:=((aA H.out hs.bel).cell (p:=⟨bt,ot+j,none⟩) I).trans (J j D)
   have aW:=aK (aA H.out hs.bel) I
   have B:j<(x.ins).length:=by rw [u.out.1];exact D
   have V:=ah.out _ (List.getElem_mem B)
   have G:=mi (bs:=BS) B
   rw [List.getElem?_eq_getElem B,Option.getD_some] at ar G
   have K:=ol (BS) (x.ins) j
   have Q:=aj.out
   have ap:=u.out.1
   generalize (x.ins)[j]=x at *
   obtain ⟨X,rfl⟩:=Int.eq_ofNat_of_zero_le V.1
   have al:X<C:=by omega
   obtain ⟨cX,fX,lX,hN⟩:=om hs al
   rw [G] at hN
   have af:=fC (lI (BS) (x.ins) j) (X:Int)
   have ak:=Hd hN
   clear hN G J hs
   generalize cnt (lI (BS) (x.ins) j) (X:Int)=q at *
   have hq:q<=10000:=by omega
   have a0:j<=10000:=by omega
   clear af K Q ap B V
   obtain ⟨i0,i1⟩:=ib (by omega:j<m)
   obtain ⟨i2,i3⟩:=ib (by omega:X<C)
   subst hA
   go_wp2_with fail
   go_roundw
   ·exact ⟨j+1,by omega,by go_num,ak.out⟩
   simp [intOf];omega
  have R:j=m:=by omega
  have am:=dF (by omega:m<=j)
  have HD:=Hd (show aJ z wr [.cel (aH (aG C ((BS)++(x.ins)))) (.slice (some ⟨z.heap.size,0,none⟩) C C)] from by rw [←mh u.out.1,←R];exact hs)
  clear hs u g R
  have aP:=Hd (show aJ z wr [.cel (aH (aG C (l.luts.flatMap Lt.ins++(l.seqs.take (k+1)).flatMap Sq.ins))) (.slice (some ⟨z.heap.size,0,none⟩) C C)] from by rw [←ao.out];exact HD.out)
  go_wp2_with fail
  go_roundw
  ·exact ⟨k+1,by omega,by go_num,aP.out⟩
  simp [intOf];omega
 have aq:k=sn:=by omega
 have aE:=dF (by omega:sn<=k)
 have be:=Hd (show aJ z wr [.cel (aH (aG C (l.luts.flatMap Lt.ins++l.seqs.flatMap Sq.ins))) (.slice (some ⟨z.heap.size,0,none⟩) C C)] from by
  have h:=g.out
  rwa [aq,←aN.out,List.take_length] at h)
 obtain ⟨-,-,-,x3,lx⟩:=cO (aD g.out.bel ax.out)
 clear aq g
 have ah:Hid (∀n∈l.outs,0<=n/\n<(C:Int)):=fun n hn=>by
  have h:=HF.out.outs n hn
  have h2:=aF.out
  omega
 have aj:Hid ((l.luts.flatMap Lt.ins++l.seqs.flatMap Sq.ins).length+l.outs.length<=3000):=by
  show _<=_
  have h3:=mf HF.out l.seqs.length
  have h4:=jM HF.out l.luts.length
  rw [List.take_length] at h3 h4
  have h5:=HF.out.nout
  rw [List.length_append]
  omega
 obtain ⟨wo,rfl⟩:∃y,y=wr:=⟨wr,rfl⟩
 go_wp2_with fail
 clear x3 lx
 go_loopw [64] (fun i wr=>∃j:Nat,j<=on/\i = .int .i64 (j:Int)/\aJ z wr [.cel (aH (aG C (lI (l.luts.flatMap Lt.ins++l.seqs.flatMap Sq.ins) (l.outs) j))) (.slice (some ⟨z.heap.size,0,none⟩) C C)]) (fun i _=>on - (intOf i).toNat)
 ·exact ⟨0,by omega,rfl,by rw [mg];exact be.out⟩
 obtain ⟨j,hj,rfl,hs⟩:=hrel
 have g:=Hd hs
 have u:=Hd (HN.out.ou.ints)
 by_cases D:j<on
 ·have am:=dT (by omega:j<on)
  obtain ⟨bt,ot,hA,I,J⟩:=u.out.2 (by omega)
  have HA:=Hd hA
  have ar:=((aA H.out hs.bel).cell (p:=⟨bt,ot+j,none⟩) I).trans (J j D)
  have aW:=aK (aA H.out hs.bel) I
  have B:j<(l.outs).length:=by rw [u.out.1];exact D
  have V:=ah.out _ (List.getElem_mem B)
  have G:=mi (bs:=l.luts.flatMap Lt.ins++l.seqs.flatMap Sq.ins) B
  rw [List.getElem?_eq_getElem B,Option.getD_some] at ar G
  have K:=ol (l.luts.flatMap Lt.ins++l.seqs.flatMap Sq.ins) (l.outs) j
  have Q:=aj.out
  have ap:=u.out.1
  generalize (l.outs)[j]=x at *
  obtain ⟨X,rfl⟩:=Int.eq_ofNat_of_zero_le V.1
  have al:X<C:=by omega
  obtain ⟨cX,fX,lX,hN⟩:=om hs al
  rw [G] at hN
  have af:=fC (lI (l.luts.flatMap Lt.ins++l.seqs.flatMap Sq.ins) (l.outs) j) (X:Int)
  have ak:=Hd hN
  clear hN G J hs
  generalize cnt (lI (l.luts.flatMap Lt.ins++l.seqs.flatMap Sq.ins) (l.outs) j) (X:Int)=q at *
  have hq:q<=10000:=by omega
  have a0:j<=10000:=by omega
  clear af K Q ap B V
  obtain ⟨i0,i1⟩:=ib (by omega:j<on)
  obtain ⟨i2,i3⟩:=ib (by omega:X<C)
  subst hA
  go_wp2_with fail
  go_roundw
  ·exact ⟨j+1,by omega,by go_num,ak.out⟩
  simp [intOf];omega
 have R:j=on:=by omega
 have am:=dF (by omega:on<=j)
 have HD:=Hd (show aJ z wr [.cel (aH (aG C ((l.luts.flatMap Lt.ins++l.seqs.flatMap Sq.ins)++(l.outs)))) (.slice (some ⟨z.heap.size,0,none⟩) C C)] from by rw [←mh u.out.1,←R];exact hs)
 clear hs u g R
 go_wp2_with fail
 go_ret
 exact ⟨_,rfl,(HD.out.owned 0 rfl).more (by have:=H.out.size;omega),aA H.out HD.out.bel⟩
theorem nI {l:ag} {a b:Int}:dG l ⟨a,b⟩↔(-1<=a/\a<(l.luts.length:Int))/\(-1<=b/\b<(l.seqs.length:Int))/\¬(a=-1/\b=-1)/\(0<=b→(l.seqs[b.toNat]?.getD Sq.zero).kind=0) /\
  (0<=a→0<=b→(l.seqs[b.toNat]?.getD Sq.zero).ins[0]?.getD 0=(l.first:Int)+a/\Ad l ((l.first:Int)+a)=1) :=
 ⟨fun h=>⟨h.lut,h.ff,h.one,h.flop,h.both⟩,fun h=>⟨h.1,h.2.1,h.2.2.1,h.2.2.2.1,h.2.2.2.2⟩⟩
theorem qK (l:ag) (SA LA OA:Option Addr) (sn sc ln lc on oc:Nat) (a b:Int) (w:World) (h:fU w l SA LA OA sn sc ln lc on oc) (hf:az l) (he:dG l ⟨a,b⟩) :
  Calls Tryz.prog 142 #[jE l SA LA OA sn sc ln lc on oc,.agg #[.int .i64 a,.int .i64 b]] w fun e w'=>e = .returned (.int .i64 (dA l ⟨a,b⟩))/\Below w.heap.size w w':=by
 have g:dA l ⟨a,b⟩=if 0<=b then 1+l.inputs+b else (l.first:Int)+a:=rfl
 obtain ⟨e1,e2,e3,_⟩:=nI.1 he
 have u:=h.lens.1
 have z:=h.lens.2.1
 rw [u] at e2
 rw [z] at e1
 clear u z
 have J:=Hd (aB (aB (Below.refl w.heap.size w) (.cells (ai l SA LA OA sn sc ln lc on oc) 41)) (.cells #[.int .i64 a,.int .i64 b] 94))
 have hx:=aW (.cells #[.int .i64 a,.int .i64 b] 94) (aI w (.cells (ai l SA LA OA sn sc ln lc on oc) 41))
 have V:=aI (w.alloc (.cells (ai l SA LA OA sn sc ln lc on oc) 41)) (.cells #[.int .i64 a,.int .i64 b] 94)
 simp only [World.size_alloc] at V
 obtain ⟨q,j⟩:=hd2 hx V
 clear hx V
 obtain ⟨G,B,H⟩:=h.lens
 have W:=hf.nseq
 have U:=hf.nlut
 have R:=hf.nout
 have Z:=hf.inp
 rw [G] at W
 rw [B] at U
 rw [H] at R
 obtain ⟨HN,HF,ax,am,ar⟩:=hd5 h hf G B H
 have ad:Hid ((l.first:Int)=1+l.inputs+(sn:Int)):=by show _=_;unfold ag.first;omega
 have au:Hid ((l.count:Int)=1+l.inputs+(sn:Int)+(ln:Int)):=by show _=_;unfold ag.count ag.first;omega
 clear h hf G B H
 by_cases h0:0<=b
 ·have d0:decide (b≥0)=true:=decide_eq_true h0
  rw [if_pos h0] at g
  have D:=Hd g
  clear g e1 e3
  go_enter Tryz.func142,Tryz.ntmps142
  go_upto_region 1 with fail
  generalize (w.alloc (.cells (ai l SA LA OA sn sc ln lc on oc) 41)).alloc (.cells #[.int .i64 a,.int .i64 b] 94)=K at *
  have x0:=aF (k:=0) q.out rfl
  have y1:=aF (k:=1) j.out rfl
  have lx:=aC q.out
  have ly:=aC j.out
  go_wp2_with fail
  go_ret
  exact ⟨aL D.out.symm,J.out⟩
 have d0:decide (b≥0)=false:=decide_eq_false h0
 rw [if_neg h0,ad.out] at g
 have D:=Hd g
 have ha:0<=a:=by omega
 clear g e2 e3 h0
 go_enter Tryz.func142,Tryz.ntmps142
 go_upto_region 1 with fail
 generalize (w.alloc (.cells (ai l SA LA OA sn sc ln lc on oc) 41)).alloc (.cells #[.int .i64 a,.int .i64 b] 94)=K at *
 obtain ⟨x0,x1,x2,x3⟩:=cs4 q.out
 obtain ⟨y0,y1⟩:=cs2 j.out
 have lx:=aC q.out
 have ly:=aC j.out
 go_upto_region 3 with fail
 have Q:=Hd (fun (x:Sub K)=>kZ l.inputs SA LA OA sn sc ln lc on oc x.v Z.1 (by omega) (by omega))
 have I:=aY K
 have Y:=aP K
 refine wpB K ?_
 repeat (go_big_quiet_step ((first
  | (go_at_call 177;with_reducible exact aN (Q.out _)))))
 refine wpQuiet_nil ?_
 rintro _ ⟨⟨w5,hD⟩,rfl⟩
 clear I Y
 have HD:=Hd (aA J.out hD)
 clear x0 x1 x2 x3 y0 y1 lx ly hD
 go_wp2_with fail
 go_ret
 exact ⟨aL D.out.symm,HD.out⟩
theorem Ed (l:ag) (SA LA OA:Option Addr) (sn sc ln lc on oc:Nat) (a b:Int) (w:World) (h:fU w l SA LA OA sn sc ln lc on oc) (hf:az l) :
  Calls Tryz.prog 257 #[jE l SA LA OA sn sc ln lc on oc,.agg #[.int .i64 a,.int .i64 b]] w fun e w'=>e = .returned (.bool (tb (dG l ⟨a,b⟩)))/\Below w.heap.size w w':=by
 have D:=nI (l:=l) (a:=a) (b:=b)
 have aE:=h.lens.1
 have aH:=h.lens.2.1
 rw [aE,aH] at D
 clear aE aH
 have u:=Hd (aB (aB (Below.refl w.heap.size w) (.cells (ai l SA LA OA sn sc ln lc on oc) 41)) (.cells #[.int .i64 a,.int .i64 b] 94))
 have hx:=aW (.cells #[.int .i64 a,.int .i64 b] 94) (aI w (.cells (ai l SA LA OA sn sc ln lc on oc) 41))
 have hy:=aI (w.alloc (.cells (ai l SA LA OA sn sc ln lc on oc) 41)) (.cells #[.int .i64 a,.int .i64 b] 94)
 simp only [World.size_alloc] at hy
 obtain ⟨g,j⟩:=hd2 hx hy
 clear hx hy
 obtain ⟨aT,aJ,aX⟩:=h.lens
 have bv:=hf.nseq
 have bf:=hf.nlut
 have bn:=hf.nout
 have aU:=hf.inp
 rw [aT] at bv
 rw [aJ] at bf
 rw [aX] at bn
 obtain ⟨HN,HF,a4,bE,bJ⟩:=hd5 h hf aT aJ aX
 have a2:Hid ((l.first:Int)=1+l.inputs+(sn:Int)):=by show _=_;unfold ag.first;omega
 have a8:Hid ((l.count:Int)=1+l.inputs+(sn:Int)+(ln:Int)):=by show _=_;unfold ag.count ag.first;omega
 clear h hf aT aJ aX
 cases ae:inR a (-1) ((ln:Int) - 1) with
 | false =>
  have I:Hid (¬dG l ⟨a,b⟩):=fun h=>by
   have h2:=(D.1 h).1
   rw [aR.2 ⟨h2.1,by omega⟩] at ae
   cases ae
  have H1:=Hd ae
  clear ae D
  go_enter Tryz.func257,Tryz.ntmps257
  go_upto_region 1 with fail
  generalize (w.alloc (.cells (ai l SA LA OA sn sc ln lc on oc) 41)).alloc (.cells #[.int .i64 a,.int .i64 b] 94)=B at *
  have J:=aF (k:=2) g.out rfl
  have y0:=aF (k:=0) j.out rfl
  have W:=aC g.out
  have Q:=aC j.out
  go_wp2_with fail
  refine (aM a (-1) ((ln:Int) - 1) _).mono ?_
  rw [H1.out]
  rintro _ w' ⟨rfl,rfl⟩
  go_wp2_with fail
  go_ret
  exact ⟨aO I.out,u.out⟩
 | true =>
  have ha:=aR.1 ae
  have H1:=Hd ae
  clear ae
  cases ad:inR b (-1) ((sn:Int) - 1) with
  | false =>
   have I:Hid (¬dG l ⟨a,b⟩):=fun h=>by
    have h2:=(D.1 h).2.1
    rw [aR.2 ⟨h2.1,by omega⟩] at ad
    cases ad
   have H2:=Hd ad
   clear ad D
   go_enter Tryz.func257,Tryz.ntmps257
   go_upto_region 1 with fail
   generalize (w.alloc (.cells (ai l SA LA OA sn sc ln lc on oc) 41)).alloc (.cells #[.int .i64 a,.int .i64 b] 94)=B at *
   obtain ⟨-,Z,J⟩:=cs3 g.out
   obtain ⟨y0,Y⟩:=cs2 j.out
   have W:=aC g.out
   have Q:=aC j.out
   go_wp2_with fail
   refine (aM a (-1) ((ln:Int) - 1) _).mono ?_
   rw [H1.out]
   rintro _ w' ⟨rfl,rfl⟩
   go_wp2_with fail
   refine (aM b (-1) ((sn:Int) - 1) _).mono ?_
   rw [H2.out]
   rintro _ w' ⟨rfl,rfl⟩
   go_wp2_with fail
   go_ret
   exact ⟨aO I.out,u.out⟩
  | true =>
   have hb:=aR.1 ad
   have H2:=Hd ad
   clear ad
   by_cases hn:a=-1/\b=-1
   ·have I:Hid (¬dG l ⟨a,b⟩):=fun h=>(D.1 h).2.2.1 hn
    obtain ⟨rfl,rfl⟩:=hn
    clear D
    go_enter Tryz.func257,Tryz.ntmps257
    go_upto_region 1 with fail
    generalize (w.alloc (.cells (ai l SA LA OA sn sc ln lc on oc) 41)).alloc (.cells #[.int .i64 (-1),.int .i64 (-1)] 94)=B at *
    obtain ⟨-,Z,J⟩:=cs3 g.out
    obtain ⟨y0,Y⟩:=cs2 j.out
    have W:=aC g.out
    have Q:=aC j.out
    go_wp2_with fail
    refine (aM (-1) (-1) ((ln:Int) - 1) _).mono ?_
    rw [H1.out]
    rintro _ w' ⟨rfl,rfl⟩
    go_wp2_with fail
    refine (aM (-1) (-1) ((sn:Int) - 1) _).mono ?_
    rw [H2.out]
    rintro _ w' ⟨rfl,rfl⟩
    go_wp2_with fail
    go_ret
    exact ⟨aO I.out,u.out⟩
   have ao:((a==-1) && (b==-1))=false:=by simp;omega
   have av:(a==-1)=false∨(a==-1)=true/\(b==-1)=false:=by simp;omega
   by_cases aQ:0<=b
   ·have d1:decide (b≥0)=true:=decide_eq_true aQ
    have db:(b==-1)=false:=by simp;omega
    obtain ⟨F,rfl⟩:∃F:Nat,b=(F:Int):=⟨b.toNat,by omega⟩
    rw [Int.toNat_natCast] at D
    have hF:F<sn:=by omega
    obtain ⟨bs,os,IA,im,ic,rfl,aV,c0,c1,c2,r2⟩:=HN.out.sq.sq' (k:=F) (by rw [a4.out];exact hF)
    have bI:(l.seqs[F]?.getD Sq.zero).ins.length=im:=r2.ints.1
    have a0:=(HF.out.seqs F (by rw [a4.out];exact hF)).1
    have G:=aK u.out aV
    rw [←u.out.cell (p:=⟨bs,os+F * 3,none⟩) aV] at c0
    rw [←u.out.cell (p:=⟨bs,os+F * 3+2,none⟩) aV] at c2
    have bj:=Hd r2
    clear c1 r2
    generalize l.seqs[F]?.getD Sq.zero=s at *
    by_cases hk:s.kind=0
    ·have dk:(s.kind==0)=true:=by simp [hk]
     have bo:(s.kind != 0)=false:=by simp [hk]
     by_cases aw:0<=a
     ·have d2:decide (a≥0)=true:=decide_eq_true aw
      have da:(a==-1)=false:=by simp;omega
      obtain ⟨A,rfl⟩:∃A:Nat,a=(A:Int):=⟨a.toNat,by omega⟩
      have hA:A<ln:=by omega
      have ax:0<im:=by rcases a0 with h|h <;> omega
      obtain ⟨K,hK⟩:∃K:Nat,1+l.inputs+(sn:Int)+(A:Int)=(K:Int):=⟨(1+l.inputs+(sn:Int)+(A:Int)).toNat,by omega⟩
      have ak:K<l.count:=by have:=a8.out;omega
      have a7:Ad l ((l.first:Int)+(A:Int))=cnt (ko l) (K:Int):=by rw [ym,a2.out,hK]
      have a1:(l.first:Int)+(A:Int)=(K:Int):=by rw [a2.out,hK]
      rw [a7,a1] at D
      have br:l.count<=1048576:=by have:=a8.out;omega
      have HK:=Hd hK
      obtain ⟨bi,oi,rfl,a5,a3⟩:=bj.out.ints.2 ax
      have ci:=a3 0 ax
      have H:=aK u.out a5
      rw [←u.out.cell (p:=⟨bi,oi+0,none⟩) a5,Nat.add_zero] at ci
      clear a3 a0 ao av a7 a1 hK
      generalize s.ins[0]?.getD 0=y at *
      have HU:=Hd (fun (v:World) (hv:Below w.heap.size w v)=>wP l (some ⟨bs,os,none⟩) LA OA sn sc ln lc on oc v (HN.out.below hv) HF.out)
      obtain ⟨C,hC⟩:∃C,l.count=C:=⟨_,rfl⟩
      rw [hC] at ak br HU
      have HC:=Hd hC
      clear hC
      by_cases hy:y=(K:Int)
      ·by_cases hq:cnt (ko l) (K:Int)=1
       ·have I:Hid (dG l ⟨(A:Int),(F:Int)⟩):=D.2 ⟨⟨by omega,by omega⟩,⟨by omega,by omega⟩,by omega,fun _=>hk,fun _ _=>⟨hy,hq⟩⟩
        have HQ:=Hd hq
        subst hy
        clear D hq hk
        go_enter Tryz.func257,Tryz.ntmps257
        go_upto_region 1 with fail
        generalize (w.alloc (.cells (ai l (some ⟨bs,os,none⟩) LA OA sn sc ln lc on oc) 41)).alloc (.cells #[.int .i64 (A:Int),.int .i64 (F:Int)] 94)=B at *
        obtain ⟨x0,Z,J,x3⟩:=cs4 g.out
        obtain ⟨y0,Y⟩:=cs2 j.out
        have W:=aC g.out
        have Q:=aC j.out
        go_wp2_with fail
        refine (aM (A:Int) (-1) ((ln:Int) - 1) _).mono ?_
        rw [H1.out]
        rintro _ w' ⟨rfl,rfl⟩
        go_wp2_with fail
        refine (aM (F:Int) (-1) ((sn:Int) - 1) _).mono ?_
        rw [H2.out]
        rintro _ w' ⟨rfl,rfl⟩
        go_upto_region 6 with fail
        have ah:=Hd (fun (x:Sub B)=>kZ l.inputs (some ⟨bs,os,none⟩) LA OA sn sc ln lc on oc x.v aU.1 (by omega) (by omega))
        have V:=aY B
        have al:=aP B
        refine wpB B ?_
        repeat (go_big_quiet_step ((first
         | (go_at_call 177;with_reducible exact aN (ah.out _)))))
        refine wpQuiet_nil ?_
        rintro _ ⟨⟨w5,z⟩,rfl⟩
        clear V al
        rw [HK.out]
        have HD:=Hd (aA u.out z)
        have R:=Hd (aD z g.out)
        have U:=Hd (aD z j.out)
        have ay:=aK z G
        have aG:=aK z H
        rw [←z.cell (p:=⟨bs,os+F * 3+2,none⟩) G] at c2
        rw [←z.cell (p:=⟨bi,oi,none⟩) H] at ci
        clear x0 Z J x3 y0 Y W Q z c0 G H
        obtain ⟨x0,Z,J,x3⟩:=cs4 R.out
        have Y:=aF (k:=1) U.out rfl
        have W:=aC R.out
        have Q:=aC U.out
        go_wp2_with fail
        refine (HU.out _ HD.out).mono ?_
        rintro _ w6 ⟨UA,rfl,o6,b6⟩
        have aL:=Hd (aA HD.out b6)
        obtain ⟨bu,ou,rfl,bq,aj⟩:=o6.ints.2 (by omega)
        have cu:=aj K ak
        rw [jb _ ak,HQ.out] at cu
        clear o6 b6 aj x0 Z J x3 Y W Q c2 ci
        go_wp2_with fail
        go_ret
        exact ⟨dU I.out,aL.out⟩
       have I:Hid (¬dG l ⟨(A:Int),(F:Int)⟩):=fun h=>hq ((D.1 h).2.2.2.2 (by omega) (by omega)).2
       have bL:=fC (ko l) (K:Int)
       have HQ:=Hd hq
       subst hy
       clear D hq hk
       go_enter Tryz.func257,Tryz.ntmps257
       go_upto_region 1 with fail
       generalize (w.alloc (.cells (ai l (some ⟨bs,os,none⟩) LA OA sn sc ln lc on oc) 41)).alloc (.cells #[.int .i64 (A:Int),.int .i64 (F:Int)] 94)=B at *
       obtain ⟨x0,Z,J,x3⟩:=cs4 g.out
       obtain ⟨y0,Y⟩:=cs2 j.out
       have W:=aC g.out
       have Q:=aC j.out
       go_wp2_with fail
       refine (aM (A:Int) (-1) ((ln:Int) - 1) _).mono ?_
       rw [H1.out]
       rintro _ w' ⟨rfl,rfl⟩
       go_wp2_with fail
       refine (aM (F:Int) (-1) ((sn:Int) - 1) _).mono ?_
       rw [H2.out]
       rintro _ w' ⟨rfl,rfl⟩
       go_upto_region 6 with fail
       have ah:=Hd (fun (x:Sub B)=>kZ l.inputs (some ⟨bs,os,none⟩) LA OA sn sc ln lc on oc x.v aU.1 (by omega) (by omega))
       have V:=aY B
       have al:=aP B
       refine wpB B ?_
       repeat (go_big_quiet_step ((first
        | (go_at_call 177;with_reducible exact aN (ah.out _)))))
       refine wpQuiet_nil ?_
       rintro _ ⟨⟨w5,z⟩,rfl⟩
       clear V al
       rw [HK.out]
       have HD:=Hd (aA u.out z)
       have R:=Hd (aD z g.out)
       have U:=Hd (aD z j.out)
       have ay:=aK z G
       have aG:=aK z H
       rw [←z.cell (p:=⟨bs,os+F * 3+2,none⟩) G] at c2
       rw [←z.cell (p:=⟨bi,oi,none⟩) H] at ci
       clear x0 Z J x3 y0 Y W Q z c0 G H
       obtain ⟨x0,Z,J,x3⟩:=cs4 R.out
       have Y:=aF (k:=1) U.out rfl
       have W:=aC R.out
       have Q:=aC U.out
       go_wp2_with fail
       refine (HU.out _ HD.out).mono ?_
       rintro _ w6 ⟨UA,rfl,o6,b6⟩
       have aL:=Hd (aA HD.out b6)
       obtain ⟨bu,ou,rfl,bq,aj⟩:=o6.ints.2 (by omega)
       have cu:=aj K ak
       rw [jb _ ak] at cu
       clear o6 b6 aj x0 Z J x3 Y W Q c2 ci
       generalize cnt (ko l) (K:Int)=q at *
       have dq:(((q:Nat):Int)==1)=false:=by have:=HQ.out;simp;omega
       go_wp2_with fail
       go_ret
       exact ⟨aO I.out,aL.out⟩
      have I:Hid (¬dG l ⟨(A:Int),(F:Int)⟩):=fun h=>hy ((D.1 h).2.2.2.2 (by omega) (by omega)).1
      have dy:(y==(K:Int))=false:=by simp;exact hy
      clear D hk hy
      go_enter Tryz.func257,Tryz.ntmps257
      go_upto_region 1 with fail
      generalize (w.alloc (.cells (ai l (some ⟨bs,os,none⟩) LA OA sn sc ln lc on oc) 41)).alloc (.cells #[.int .i64 (A:Int),.int .i64 (F:Int)] 94)=B at *
      obtain ⟨x0,Z,J,x3⟩:=cs4 g.out
      obtain ⟨y0,Y⟩:=cs2 j.out
      have W:=aC g.out
      have Q:=aC j.out
      go_wp2_with fail
      refine (aM (A:Int) (-1) ((ln:Int) - 1) _).mono ?_
      rw [H1.out]
      rintro _ w' ⟨rfl,rfl⟩
      go_wp2_with fail
      refine (aM (F:Int) (-1) ((sn:Int) - 1) _).mono ?_
      rw [H2.out]
      rintro _ w' ⟨rfl,rfl⟩
      go_upto_region 6 with fail
      have ah:=Hd (fun (x:Sub B)=>kZ l.inputs (some ⟨bs,os,none⟩) LA OA sn sc ln lc on oc x.v aU.1 (by omega) (by omega))
      have V:=aY B
      have al:=aP B
      refine wpB B ?_
      repeat (go_big_quiet_step ((first
       | (go_at_call 177;with_reducible exact aN (ah.out _)))))
      refine wpQuiet_nil ?_
      rintro _ ⟨⟨w5,z⟩,rfl⟩
      clear V al
      rw [HK.out]
      have HD:=Hd (aA u.out z)
      have R:=Hd (aD z g.out)
      have U:=Hd (aD z j.out)
      have ay:=aK z G
      have aG:=aK z H
      rw [←z.cell (p:=⟨bs,os+F * 3+2,none⟩) G] at c2
      rw [←z.cell (p:=⟨bi,oi,none⟩) H] at ci
      clear x0 Z J x3 y0 Y W Q z c0 G H
      obtain ⟨x0,Z,J,x3⟩:=cs4 R.out
      have Y:=aF (k:=1) U.out rfl
      have W:=aC R.out
      have Q:=aC U.out
      go_wp2_with fail
      go_ret
      exact ⟨aO I.out,HD.out⟩
     have I:Hid (dG l ⟨a,(F:Int)⟩):=D.2 ⟨⟨by omega,by omega⟩,⟨by omega,by omega⟩,hn,fun _=>hk,fun h=>absurd h aw⟩
     have d2:decide (a≥0)=false:=decide_eq_false aw
     obtain rfl:a=-1:=by omega
     clear D hk av ao hn aw
     go_enter Tryz.func257,Tryz.ntmps257
     go_upto_region 1 with fail
     generalize (w.alloc (.cells (ai l (some ⟨bs,os,none⟩) LA OA sn sc ln lc on oc) 41)).alloc (.cells #[.int .i64 (-1),.int .i64 (F:Int)] 94)=B at *
     obtain ⟨-,Z,J⟩:=cs3 g.out
     obtain ⟨y0,Y⟩:=cs2 j.out
     have W:=aC g.out
     have Q:=aC j.out
     go_wp2_with fail
     refine (aM (-1) (-1) ((ln:Int) - 1) _).mono ?_
     rw [H1.out]
     rintro _ w' ⟨rfl,rfl⟩
     go_wp2_with fail
     refine (aM (F:Int) (-1) ((sn:Int) - 1) _).mono ?_
     rw [H2.out]
     rintro _ w' ⟨rfl,rfl⟩
     go_wp2_with fail
     go_ret
     exact ⟨dU I.out,u.out⟩
    have bo:(s.kind != 0)=true:=by simp;exact hk
    have I:Hid (¬dG l ⟨a,(F:Int)⟩):=fun h=>hk ((D.1 h).2.2.2.1 (by omega))
    clear D hk
    rcases av with da|⟨da,_⟩
    ·clear ao
     go_enter Tryz.func257,Tryz.ntmps257
     go_upto_region 1 with fail
     generalize (w.alloc (.cells (ai l (some ⟨bs,os,none⟩) LA OA sn sc ln lc on oc) 41)).alloc (.cells #[.int .i64 a,.int .i64 (F:Int)] 94)=B at *
     obtain ⟨-,Z,J⟩:=cs3 g.out
     obtain ⟨y0,Y⟩:=cs2 j.out
     have W:=aC g.out
     have Q:=aC j.out
     go_wp2_with fail
     refine (aM a (-1) ((ln:Int) - 1) _).mono ?_
     rw [H1.out]
     rintro _ w' ⟨rfl,rfl⟩
     go_wp2_with fail
     refine (aM (F:Int) (-1) ((sn:Int) - 1) _).mono ?_
     rw [H2.out]
     rintro _ w' ⟨rfl,rfl⟩
     go_wp2_with fail
     go_ret
     exact ⟨aO I.out,u.out⟩
    clear ao
    go_enter Tryz.func257,Tryz.ntmps257
    go_upto_region 1 with fail
    generalize (w.alloc (.cells (ai l (some ⟨bs,os,none⟩) LA OA sn sc ln lc on oc) 41)).alloc (.cells #[.int .i64 a,.int .i64 (F:Int)] 94)=B at *
    obtain ⟨-,Z,J⟩:=cs3 g.out
    obtain ⟨y0,Y⟩:=cs2 j.out
    have W:=aC g.out
    have Q:=aC j.out
    go_wp2_with fail
    refine (aM a (-1) ((ln:Int) - 1) _).mono ?_
    rw [H1.out]
    rintro _ w' ⟨rfl,rfl⟩
    go_wp2_with fail
    refine (aM (F:Int) (-1) ((sn:Int) - 1) _).mono ?_
    rw [H2.out]
    rintro _ w' ⟨rfl,rfl⟩
    go_wp2_with fail
    go_ret
    exact ⟨aO I.out,u.out⟩
   have d1:decide (b≥0)=false:=decide_eq_false aQ
   obtain rfl:b=-1:=by omega
   have da:(a==-1)=false:=by simp;omega
   have I:Hid (dG l ⟨a,-1⟩):=D.2 ⟨⟨by omega,by omega⟩,⟨by omega,by omega⟩,hn,fun h=>by omega,fun _ h=>by omega⟩
   have d2:decide (a≥0)=true:=decide_eq_true (by omega)
   clear D hn aQ av ao
   go_enter Tryz.func257,Tryz.ntmps257
   go_upto_region 1 with fail
   generalize (w.alloc (.cells (ai l SA LA OA sn sc ln lc on oc) 41)).alloc (.cells #[.int .i64 a,.int .i64 (-1)] 94)=B at *
   obtain ⟨-,Z,J⟩:=cs3 g.out
   obtain ⟨y0,Y⟩:=cs2 j.out
   have W:=aC g.out
   have Q:=aC j.out
   go_wp2_with fail
   refine (aM a (-1) ((ln:Int) - 1) _).mono ?_
   rw [H1.out]
   rintro _ w' ⟨rfl,rfl⟩
   go_wp2_with fail
   refine (aM (-1) (-1) ((sn:Int) - 1) _).mono ?_
   rw [H2.out]
   rintro _ w' ⟨rfl,rfl⟩
   go_wp2_with fail
   go_ret
   exact ⟨dU I.out,u.out⟩
theorem oZ {l:ag} {it:Int} {es:List LeT}:dY l ⟨0,it,es⟩↔0<=it/\it<l.inputs:=by simp [dY]
theorem og {l:ag} {it:Int} {es:List LeT}:dY l ⟨1,it,es⟩↔0<=it/\it<(l.outs.length:Int):=by simp [dY]
theorem jW {l:ag} {it:Int} {es:List LeT}:dY l ⟨2,it,es⟩↔0<=it/\it<(l.seqs.length:Int):=by simp [dY]
theorem kJ {l:ag} {it:Int} {es:List LeT}:dY l ⟨3,it,es⟩↔∀e∈es,dG l e:=by simp [dY]
theorem iL {l:ag} {kd it:Int} {es:List LeT} (h:dY l ⟨kd,it,es⟩):kd=0∨kd=1∨kd=2∨kd=3:=by
 rcases h with h|h|h|h
 ·exact .inl h.1
 ·exact .inr (.inl h.1)
 ·exact .inr (.inr (.inl h.1))
 exact .inr (.inr (.inr h.1))
theorem yR (l : ag) (SA LA OA : Option Addr) (sn sc ln lc on oc : Nat) (a b : Int) (w : World) (h : fU w l SA LA OA sn sc ln lc on oc) (hf : az l) (he : dG l ⟨a, b⟩) :
    Calls Tryz.prog 214 #[jE l SA LA OA sn sc ln lc on oc, .agg #[.int .i64 a, .int .i64 b]] w fun e w' => ∃ A n c, e = .returned (.slice A n c) /\ Own w.heap.size w' A n c (iB l ⟨a, b⟩) /\ Below w.heap.size w w' := by
  have j : iB l ⟨a, b⟩ = asc ((if 0 <= a then (l.luts[a.toNat]?.getD Lt.zero).ins else (l.seqs[b.toNat]?.getD Sq.zero).ins).filter fun x => decide (x ≠ 0)) := rfl
  obtain ⟨e1, e2, e3, _⟩ := nI.1 he
  have B := (qc hf he).1
  change (if 0 <= a then (l.luts[a.toNat]?.getD Lt.zero).ins else (l.seqs[b.toNat]?.getD Sq.zero).ins).length <= 4 at B
  have H := Hd (aB (aB (Below.refl w.heap.size w) (.cells (ai l SA LA OA sn sc ln lc on oc) 41)) (.cells #[.int .i64 a, .int .i64 b] 94))
  have q := aW (.cells #[.int .i64 a, .int .i64 b] 94) (aI w (.cells (ai l SA LA OA sn sc ln lc on oc) 41))
  have hy := aI (w.alloc (.cells (ai l SA LA OA sn sc ln lc on oc) 41)) (.cells #[.int .i64 a, .int .i64 b] 94)
  simp only [World.size_alloc] at hy
  have ae := Hd q
  have U := Hd hy
  clear q hy
  obtain ⟨am, ah, D⟩ := h.lens
  have aT := hf.nseq
  have aJ := hf.nlut
  have aQ := hf.nout
  have a9 := hf.inp
  rw [am] at aT
  rw [ah] at aJ
  rw [D] at aQ
  have HN := Hd h
  have HF := Hd hf
  have aD := Hd am
  have av := Hd ah
  have a7 := Hd D
  have a2 : Hid ((l.first : Int) = 1 + l.inputs + (sn : Int)) := by show _ = _; unfold ag.first; omega
  have a8 : Hid ((l.count : Int) = 1 + l.inputs + (sn : Int) + (ln : Int)) := by show _ = _; unfold ag.count ag.first; omega
  clear h hf am ah D
  by_cases h0 : 0 <= a
  · have d0 : decide (a ≥ 0) = true := decide_eq_true h0
    rw [if_pos h0] at j B
    obtain ⟨X, rfl⟩ : ∃ X : Nat, a = (X : Int) := ⟨a.toNat, by omega⟩
    rw [Int.toNat_natCast] at j B
    have hX : X < ln := by have := av.out; omega
    obtain ⟨bb, ob, S, m, p, rfl, K, c0, c1, r2⟩ := HN.out.lt.lut' (k := X) (by rw [av.out]; exact hX)
    have aL := aK H.out K
    rw [← H.out.cell (p := ⟨bb, ob + X * 2, none⟩) K] at c0
    have u := Hd r2.ints
    rw [r2.ints.1] at B
    have ao := Hd j
    clear c1 r2 j e1 e2 e3 he
    generalize (l.luts[X]?.getD Lt.zero).ins = src at *
    go_enter Tryz.func214, Tryz.ntmps214
    go_upto_region 1 with fail
    generalize (w.alloc (.cells (ai l SA (some ⟨bb, ob, none⟩) OA sn sc ln lc on oc) 41)).alloc (.cells #[.int .i64 (X : Int), .int .i64 b] 94) = W9 at *
    have x2 := aF (k := 2) ae.out rfl
    have y0 := aF (k := 0) U.out rfl
    have lx := aC ae.out
    have ly := aC U.out
    go_wp2_with fail
    clear x2 y0 lx ly c0
    go_loopw [6, 28] (fun v i wr => ∃ (k : Nat) (R : Option Addr) (G W : Nat), k <= m /\ i = .int .i64 k /\ v = .slice R G W /\ Own w.heap.size wr R G W (asc ((src.take k).filter fun x => decide (x ≠ 0))) /\ Below w.heap.size w wr) (fun _ i _ => m - (intOf i).toNat)
    case atStart => exact ⟨0, _, _, _, Nat.zero_le _, rfl, rfl, Own.nil, H.out⟩
    obtain ⟨k, R, G, W, hk, rfl, rfl, ho, hb⟩ := hrel
    have HO := Hd ho
    have g := Hd hb
    have D := ho.len
    clear ho hb
    by_cases Y : k < m
    · have aj : decide ((k : Int) < (m : Int)) = true := by simp; omega
      obtain ⟨bs, os, rfl, Z, I⟩ := u.out.2 (by omega)
      have ar := (g.out.cell (p := ⟨bs, os + k, none⟩) Z).trans (I k Y)
      have ak := aK g.out Z
      have V : k < src.length := by rw [u.out.1]; exact Y
      have hg := mI (fun x => decide (x ≠ 0)) (src.take k) (src[k]?.getD 0)
      rw [← bU V] at hg
      have HG := Hd hg
      have ap := jQ ((src.take k).filter fun x => decide (x ≠ 0))
      have Q := List.length_filter_le (fun x => decide (x ≠ 0)) (src.take k)
      rw [List.length_take] at Q
      have aU : G <= 4 := by omega
      clear hg I ap Q D V
      generalize asc ((src.take k).filter fun x => decide (x ≠ 0)) = ys at *
      generalize src[k]?.getD 0 = x at *
      have i0 : (0 : Int) <= (k : Int) := by omega
      have i1 : (k : Int) < (m : Int) := by omega
      by_cases q : x = 0
      · have z : Hid (asc ((src.take (k + 1)).filter fun x => decide (x ≠ 0)) = ys) := by show _ = _; rw [HG.out, q]; rfl
        have dx : (x != 0) = false := by simp [q]
        clear HG q
        go_wp2_with fail
        go_roundw
        case rel => exact ⟨k + 1, _, _, _, by omega, by go_num, rfl, by rw [z.out]; exact HO.out, g.out⟩
        case measure => simp [intOf]; omega
      have z : Hid (asc ((src.take (k + 1)).filter fun x => decide (x ≠ 0)) = ins ys x) := by show _ = _; rw [HG.out]; simp [q]
      have dx : (x != 0) = true := by simp [q]
      clear HG q
      go_wp2_with fail
      refine (jR w.heap.size R G W ys x _ HO.out g.out.size (by omega)).mono ?_
      rintro _ w1 ⟨A2, n2, c2, rfl, o2, b2⟩
      have al := Hd o2
      have au := Hd (aA g.out b2)
      clear o2 b2 ar ak
      go_wp2_with fail
      go_roundw
      case rel => exact ⟨k + 1, _, _, _, by omega, by go_num, rfl, by rw [z.out]; exact al.out, au.out⟩
      case measure => simp [intOf]; omega
    have J : k = m := by omega
    have aj : decide ((k : Int) < (m : Int)) = false := by simp; omega
    have HD : Hid (Own w.heap.size wr R G W (asc (src.filter fun x => decide (x ≠ 0)))) := by
      have h := HO.out
      rwa [J, List.take_of_length_le (by rw [u.out.1]; exact Nat.le_refl _)] at h
    clear HO J
    go_wp2_with fail
    go_ret
    exact ⟨_, _, _, rfl, by rw [ao.out]; exact HD.out, g.out⟩
  have d0 : decide (a ≥ 0) = false := decide_eq_false h0
  rw [if_neg h0] at j B
  obtain ⟨X, rfl⟩ : ∃ X : Nat, b = (X : Int) := ⟨b.toNat, by omega⟩
  rw [Int.toNat_natCast] at j B
  have hX : X < sn := by have := aD.out; omega
  obtain ⟨bb, ob, S, m, p, rfl, K, c0, c1, c2, r2⟩ := HN.out.sq.sq' (k := X) (by rw [aD.out]; exact hX)
  have aL := aK H.out K
  rw [← H.out.cell (p := ⟨bb, ob + X * 3 + 2, none⟩) K] at c2
  have u := Hd r2.ints
  rw [r2.ints.1] at B
  have ao := Hd j
  clear c0 c1 r2 j e1 e2 e3 he
  generalize (l.seqs[X]?.getD Sq.zero).ins = src at *
  go_enter Tryz.func214, Tryz.ntmps214
  go_upto_region 1 with fail
  generalize (w.alloc (.cells (ai l (some ⟨bb, ob, none⟩) LA OA sn sc ln lc on oc) 41)).alloc (.cells #[.int .i64 a, .int .i64 (X : Int)] 94) = W9 at *
  have x1 := aF (k := 1) ae.out rfl
  have y0 := aF (k := 0) U.out rfl
  have y1 := aF (k := 1) U.out rfl
  have lx := aC ae.out
  have ly := aC U.out
  go_wp2_with fail
  clear x1 y0 y1 lx ly c2
  go_loopw [6, 28] (fun v i wr => ∃ (k : Nat) (R : Option Addr) (G W : Nat), k <= m /\ i = .int .i64 k /\ v = .slice R G W /\ Own w.heap.size wr R G W (asc ((src.take k).filter fun x => decide (x ≠ 0))) /\ Below w.heap.size w wr) (fun _ i _ => m - (intOf i).toNat)
  case atStart => exact ⟨0, _, _, _, Nat.zero_le _, rfl, rfl, Own.nil, H.out⟩
  obtain ⟨k, R, G, W, hk, rfl, rfl, ho, hb⟩ := hrel
  have HO := Hd ho
  have g := Hd hb
  have D := ho.len
  clear ho hb
  by_cases Y : k < m
  · have aj : decide ((k : Int) < (m : Int)) = true := by simp; omega
    obtain ⟨bs, os, rfl, Z, I⟩ := u.out.2 (by omega)
    have ar := (g.out.cell (p := ⟨bs, os + k, none⟩) Z).trans (I k Y)
    have ak := aK g.out Z
    have V : k < src.length := by rw [u.out.1]; exact Y
    have hg := mI (fun x => decide (x ≠ 0)) (src.take k) (src[k]?.getD 0)
    rw [← bU V] at hg
    have HG := Hd hg
    have ap := jQ ((src.take k).filter fun x => decide (x ≠ 0))
    have Q := List.length_filter_le (fun x => decide (x ≠ 0)) (src.take k)
    rw [List.length_take] at Q
    have aU : G <= 4 := by omega
    clear hg I ap Q D V
    generalize asc ((src.take k).filter fun x => decide (x ≠ 0)) = ys at *
    generalize src[k]?.getD 0 = x at *
    have i0 : (0 : Int) <= (k : Int) := by omega
    have i1 : (k : Int) < (m : Int) := by omega
    by_cases q : x = 0
    · have z : Hid (asc ((src.take (k + 1)).filter fun x => decide (x ≠ 0)) = ys) := by show _ = _; rw [HG.out, q]; rfl
      have dx : (x != 0) = false := by simp [q]
      clear HG q
      go_wp2_with fail
      go_roundw
      case rel => exact ⟨k + 1, _, _, _, by omega, by go_num, rfl, by rw [z.out]; exact HO.out, g.out⟩
      case measure => simp [intOf]; omega
    have z : Hid (asc ((src.take (k + 1)).filter fun x => decide (x ≠ 0)) = ins ys x) := by show _ = _; rw [HG.out]; simp [q]
    have dx : (x != 0) = true := by simp [q]
    clear HG q
    go_wp2_with fail
    refine (jR w.heap.size R G W ys x _ HO.out g.out.size (by omega)).mono ?_
    rintro _ w1 ⟨A2, n2, c2, rfl, o2, b2⟩
    have al := Hd o2
    have au := Hd (aA g.out b2)
    clear o2 b2 ar ak
    go_wp2_with fail
    go_roundw
    case rel => exact ⟨k + 1, _, _, _, by omega, by go_num, rfl, by rw [z.out]; exact al.out, au.out⟩
    case measure => simp [intOf]; omega
  have J : k = m := by omega
  have aj : decide ((k : Int) < (m : Int)) = false := by simp; omega
  have HD : Hid (Own w.heap.size wr R G W (asc (src.filter fun x => decide (x ≠ 0)))) := by
    have h := HO.out
    rwa [J, List.take_of_length_le (by rw [u.out.1]; exact Nat.le_refl _)] at h
  clear HO J
  go_wp2_with fail
  go_ret
  exact ⟨_, _, _, rfl, by rw [ao.out]; exact HD.out, g.out⟩
theorem yS (l:ag) (SA LA OA:Option Addr) (sn sc ln lc on oc:Nat) (kd it:Int) (es:List LeT) (G:Option Addr) (q H:Nat) (w:World) (h:fU w l SA LA OA sn sc ln lc on oc) (hf:az l) (hE:RdC w w.heap.size (cZ es) (.slice G q H)) (Z:dY l ⟨kd,it,es⟩) (bj:q<=1048576) :
  Calls Tryz.prog 126 #[jE l SA LA OA sn sc ln lc on oc,.agg #[.int .i64 kd,.int .i64 it,.slice G q H]] w fun e w'=>∃A n c,e = .returned (.slice A n c)/\Own w.heap.size w' A n c (kD l ⟨kd,it,es⟩)/\Below w.heap.size w w':=by
 have aO:=hE.esN
 obtain ⟨HE,ae⟩:=hd2 hE aO
 clear hE
 have j:=Hd (aB (aB (Below.refl w.heap.size w) (.cells (ai l SA LA OA sn sc ln lc on oc) 41)) (.cells #[.int .i64 kd,.int .i64 it,.slice G q H] 89))
 have hx:=aW (.cells #[.int .i64 kd,.int .i64 it,.slice G q H] 89) (aI w (.cells (ai l SA LA OA sn sc ln lc on oc) 41))
 have hy:=aI (w.alloc (.cells (ai l SA LA OA sn sc ln lc on oc) 41)) (.cells #[.int .i64 kd,.int .i64 it,.slice G q H] 89)
 simp only [World.size_alloc] at hy
 obtain ⟨g,u⟩:=hd2 hx hy
 clear hx hy
 obtain ⟨Q,J,U⟩:=h.lens
 have aR:=hf.nseq
 have ar:=hf.nlut
 have aG:=hf.nout
 have bn:=hf.inp
 rw [Q] at aR
 rw [J] at ar
 rw [U] at aG
 obtain ⟨HN,HF,ay,a2,bl⟩:=hd5 h hf Q J U
 have bb:Hid ((l.first:Int)=1+l.inputs+(sn:Int)):=by show _=_;unfold ag.first;omega
 have bm:Hid ((l.count:Int)=1+l.inputs+(sn:Int)+(ln:Int)):=by show _=_;unfold ag.count ag.first;omega
 clear h hf Q J U
 by_cases k0:kd=0
 ·subst k0
  have R:Hid (kD l ⟨0,it,es⟩=[1+it]):=rfl
  have aM:0<=it/\it<l.inputs:=oZ.1 Z
  go_enter Tryz.func126,Tryz.ntmps126
  go_upto_region 1 with fail
  generalize (w.alloc (.cells (ai l SA LA OA sn sc ln lc on oc) 41)).alloc (.cells #[.int .i64 0,.int .i64 it,.slice G q H] 89)=I at *
  have W:=aF (k:=0) g.out rfl
  obtain ⟨y0,y1⟩:=cs2 u.out
  have V:=aC g.out
  have ly:=aC u.out
  go_wp2_with fail
  go_ret
  refine ⟨_,_,_,rfl,?_,aA j.out (aB (Below.refl _ _) _)⟩
  rw [R.out]
  exact Own.made (cur:=#[.int .i64 (1+it)]) (aI I _) j.out.size (by unfold maxLen;omega) rfl rfl
 by_cases k1:kd=1
 ·subst k1
  have R:Hid (kD l ⟨1,it,es⟩=[]):=rfl
  go_enter Tryz.func126,Tryz.ntmps126
  go_upto_region 1 with fail
  generalize (w.alloc (.cells (ai l SA LA OA sn sc ln lc on oc) 41)).alloc (.cells #[.int .i64 1,.int .i64 it,.slice G q H] 89)=I at *
  have W:=aF (k:=0) g.out rfl
  obtain ⟨y0,y1⟩:=cs2 u.out
  have V:=aC g.out
  have ly:=aC u.out
  go_wp2_with fail
  go_ret
  exact ⟨_,_,_,rfl,by rw [R.out];exact Own.nil,j.out⟩
 by_cases k2:kd=2
 ·subst k2
  have R:Hid (kD l ⟨2,it,es⟩=[1+l.inputs+it]):=rfl
  have aM:0<=it/\it<(sn:Int):=by rw [←ay.out];exact jW.1 Z
  go_enter Tryz.func126,Tryz.ntmps126
  go_upto_region 1 with fail
  generalize (w.alloc (.cells (ai l SA LA OA sn sc ln lc on oc) 41)).alloc (.cells #[.int .i64 2,.int .i64 it,.slice G q H] 89)=I at *
  have W:=aF (k:=0) g.out rfl
  obtain ⟨y0,y1⟩:=cs2 u.out
  have V:=aC g.out
  have ly:=aC u.out
  go_wp2_with fail
  go_ret
  refine ⟨_,_,_,rfl,?_,aA j.out (aB (Below.refl _ _) _)⟩
  rw [R.out]
  exact Own.made (cur:=#[.int .i64 (1+l.inputs+it)]) (aI I _) j.out.size (by unfold maxLen;omega) rfl rfl
 have k3:kd=3:=by have:=iL Z;omega
 subst k3
 clear k0 k1 k2
 have R:Hid (kD l ⟨3,it,es⟩=es.map (dA l)):=rfl
 have aw:Hid (∀e∈es,dG l e):=kJ.1 Z
 clear Z
 have au:=g
 go_enter Tryz.func126,Tryz.ntmps126
 go_upto_region 1 with fail
 generalize (w.alloc (.cells (ai l SA LA OA sn sc ln lc on oc) 41)).alloc (.cells #[.int .i64 3,.int .i64 it,.slice G q H] 89)=I at *
 have W:=aF (k:=0) g.out rfl
 obtain ⟨y0,y1,y2⟩:=cs3 u.out
 have V:=aC g.out
 have ly:=aC u.out
 go_wp2_with fail
 clear W y0 y1 y2 V ly
 go_loopw [5,30] (fun v i wr=>∃(k:Nat) (A':Option Addr) (c':Nat),k<=q/\i = .int .i64 k/\v = .slice A' k c'/\aJ I wr [.cel (aH ((es.take k).map (dA l))) (.slice A' k c')]) (fun _ i _=>q - (intOf i).toNat)
 ·exact ⟨0,none,0,Nat.zero_le _,rfl,rfl,(aJ.refl I).pushNil 3 1⟩
 obtain ⟨k,A',c',hk,rfl,rfl,hs⟩:=hrel
 have HS:=Hd hs
 clear hs
 by_cases aS:k<q
 ·have av:=dT (by omega:k<q)
  have B:k<es.length:=by rw [ae.out];exact aS
  obtain ⟨be,oe,rfl,K,c0,c1⟩:=HE.out.es (k:=k) B
  have D:=aA j.out HS.out.bel
  have bc:=aK D K
  rw [←D.cell (p:=⟨be,oe+k * 2,none⟩) K] at c0
  rw [←D.cell (p:=⟨be,oe+k * 2+1,none⟩) K] at c1
  clear D
  have al:=Hd (aw.out _ (List.getElem_mem B))
  have aL:Hid ((es.take (k+1)).map (dA l)=(es.take k).map (dA l)++[dA l ⟨(es[k]?.getD LeT.zero).lut,(es[k]?.getD LeT.zero).ff⟩]):=by show _=_;rw [bU (z:=LeT.zero) B,List.map_append];rfl
  rw [show es[k]=es[k]?.getD LeT.zero by rw [List.getElem?_eq_getElem B];rfl] at al
  clear B
  generalize es[k]?.getD LeT.zero=e at *
  have hx:=aD (aB (Below.refl wr.heap.size wr) (.cells #[.int .i64 e.lut,.int .i64 e.ff] 94)) (aD HS.out.bel au.out)
  obtain ⟨W,x1,x2,x3,V⟩:=cO hx
  have hq:=aI wr (.cells #[.int .i64 e.lut,.int .i64 e.ff] 94)
  obtain ⟨q0,q1,lq⟩:=jv hq
  obtain ⟨i0,i1⟩:=ib (by omega:k<q)
  have ak:=Hd (HS.out.alloc (.cells #[.int .i64 e.lut,.int .i64 e.ff] 94))
  clear hx hq
  go_wp2_with fail
  refine (qK l SA LA OA sn sc ln lc on oc e.lut e.ff _ (HN.out.below (aA j.out ak.out.bel)) HF.out al.out).mono ?_
  rintro _ w1 ⟨rfl,b1⟩
  have aE:=Hd (ak.out.below b1)
  clear b1 W x1 x2 x3 V q0 q1 lq c0 c1
  generalize dA l ⟨e.lut,e.ff⟩=Y at *
  go_wp2_with (at_builtin;refine gF rfl _ _ rfl _ (aE.out.alloc _) 0 A' k c' ((es.take k).map (dA l)) Y _ (0,0) rfl rfl rfl (aI _ _) (by omega) ?_;intro g9 a6 w9 S9 ax;have aP:=Hd S9;clear S9 ax)
  go_roundw
  ·exact ⟨k+1,_,_,by omega,by go_num,rfl,by rw [aL.out];exact aP.out⟩
  simp [intOf];omega
 have ad:k=q:=by omega
 have av:=dF (by omega:q<=k)
 have HD:Hid (aJ I wr [.cel (aH (es.map (dA l))) (.slice A' q c')]):=by
  have h:=HS.out
  rwa [ad,List.take_of_length_le (by rw [ae.out];exact Nat.le_refl _)] at h
 subst ad
 clear HS
 go_wp2_with fail
 go_ret
 exact ⟨_,_,_,rfl,by rw [R.out];exact (HD.out.owned 0 rfl).more j.out.size,aA j.out HD.out.bel⟩
theorem mX (l : ag) (SA LA OA : Option Addr) (sn sc ln lc on oc : Nat) (kd it : Int) (es : List LeT) (EA : Option Addr) (q ec : Nat) (w : World) (h : fU w l SA LA OA sn sc ln lc on oc) (hf : az l) (hE : RdC w w.heap.size (cZ es) (.slice EA q ec)) (hK : dY l ⟨kd, it, es⟩) (cp : q <= 100000) :
    Calls Tryz.prog 125 #[jE l SA LA OA sn sc ln lc on oc, .agg #[.int .i64 kd, .int .i64 it, .slice EA q ec]] w fun e w' => ∃ A n c, e = .returned (.slice A n c) /\ Own w.heap.size w' A n c (jA l ⟨kd, it, es⟩) /\ Below w.heap.size w w' := by
  have bL := hE.esN
  have HE := Hd hE
  have ae := Hd bL
  clear hE
  have u := Hd (aB (aB (Below.refl w.heap.size w) (.cells (ai l SA LA OA sn sc ln lc on oc) 41)) (.cells #[.int .i64 kd, .int .i64 it, .slice EA q ec] 89))
  have B := aW (.cells #[.int .i64 kd, .int .i64 it, .slice EA q ec] 89) (aI w (.cells (ai l SA LA OA sn sc ln lc on oc) 41))
  have hy := aI (w.alloc (.cells (ai l SA LA OA sn sc ln lc on oc) 41)) (.cells #[.int .i64 kd, .int .i64 it, .slice EA q ec] 89)
  simp only [World.size_alloc] at hy
  have G := Hd B
  have g := Hd hy
  clear B hy
  obtain ⟨aO, aq, V⟩ := h.lens
  have bV := hf.nseq
  have bp := hf.nlut
  have bE := hf.nout
  have cs := hf.inp
  rw [aO] at bV
  rw [aq] at bp
  rw [V] at bE
  have HN := Hd h
  have HF := Hd hf
  have aG := Hd aO
  have cf := Hd aq
  have bQ := Hd V
  have cl : Hid ((l.first : Int) = 1 + l.inputs + (sn : Int)) := by show _ = _; unfold ag.first; omega
  have cq : Hid ((l.count : Int) = 1 + l.inputs + (sn : Int) + (ln : Int)) := by show _ = _; unfold ag.count ag.first; omega
  clear h hf aO aq V
  by_cases k0 : kd = 0
  · subst k0
    have HR : Hid (jA l ⟨0, it, es⟩ = []) := rfl
    go_enter Tryz.func125, Tryz.ntmps125
    go_upto_region 1 with fail
    generalize (w.alloc (.cells (ai l SA LA OA sn sc ln lc on oc) 41)).alloc (.cells #[.int .i64 0, .int .i64 it, .slice EA q ec] 89) = W9 at *
    have x0 := aF (k := 0) G.out rfl
    have y0 := aF (k := 0) g.out rfl
    have y1 := aF (k := 1) g.out rfl
    have lx := aC G.out
    have ly := aC g.out
    go_wp2_with fail
    go_ret
    exact ⟨_, _, _, rfl, by rw [HR.out]; exact Own.nil, u.out⟩
  by_cases k1 : kd = 1
  · subst k1
    have HR : Hid (jA l ⟨1, it, es⟩ = [l.outs[it.toNat]?.getD 0]) := rfl
    have aN := og.1 hK
    rw [bQ.out] at aN
    obtain ⟨X, rfl⟩ : ∃ X : Nat, it = (X : Int) := ⟨it.toNat, by omega⟩
    rw [Int.toNat_natCast] at HR
    have hX : X < on := by omega
    obtain ⟨bo, oo, rfl, a0, a9⟩ := HN.out.ou.ints.2 (by omega)
    have co := a9 X hX
    have cj := aK u.out a0
    rw [← u.out.cell (p := ⟨bo, oo + X, none⟩) a0] at co
    clear a9 hK
    generalize l.outs[X]?.getD 0 = y at *
    go_enter Tryz.func125, Tryz.ntmps125
    go_upto_region 1 with fail
    generalize (w.alloc (.cells (ai l SA LA (some ⟨bo, oo, none⟩) sn sc ln lc on oc) 41)).alloc (.cells #[.int .i64 1, .int .i64 (X : Int), .slice EA q ec] 89) = W9 at *
    have x3 := aF (k := 3) G.out rfl
    have y0 := aF (k := 0) g.out rfl
    have y1 := aF (k := 1) g.out rfl
    have lx := aC G.out
    have ly := aC g.out
    go_wp2_with fail
    go_ret
    refine ⟨_, _, _, rfl, ?_, aA u.out (aB (Below.refl _ _) _)⟩
    rw [HR.out]
    exact Own.made (cur := #[.int .i64 (y)]) (aI W9 _) u.out.size (by unfold maxLen; omega) rfl rfl
  by_cases k2 : kd = 2
  · subst k2
    have HR : Hid (jA l ⟨2, it, es⟩ = (l.seqs[it.toNat]?.getD Sq.zero).ins) := rfl
    have aN := jW.1 hK
    rw [aG.out] at aN
    obtain ⟨X, rfl⟩ : ∃ X : Nat, it = (X : Int) := ⟨it.toNat, by omega⟩
    rw [Int.toNat_natCast] at HR
    have hX : X < sn := by omega
    obtain ⟨bb, ob, S, m, p, rfl, aZ, c0, c1, c2, r2⟩ := HN.out.sq.sq' (k := X) (by rw [aG.out]; exact hX)
    have cg := aK u.out aZ
    rw [← u.out.cell (p := ⟨bb, ob + X * 3 + 2, none⟩) aZ] at c2
    have bw : m <= 4 := by
      have h1 := (HF.out.seqs X (by rw [aG.out]; exact hX)).1
      have h2 := r2.ints.1
      rcases h1 with h | h <;> omega
    have bv := Hd r2.ints
    clear c0 c1 r2 hK
    generalize (l.seqs[X]?.getD Sq.zero).ins = src at *
    go_enter Tryz.func125, Tryz.ntmps125
    go_upto_region 1 with fail
    generalize (w.alloc (.cells (ai l (some ⟨bb, ob, none⟩) LA OA sn sc ln lc on oc) 41)).alloc (.cells #[.int .i64 2, .int .i64 (X : Int), .slice EA q ec] 89) = W9 at *
    have x1 := aF (k := 1) G.out rfl
    have y0 := aF (k := 0) g.out rfl
    have y1 := aF (k := 1) g.out rfl
    have lx := aC G.out
    have ly := aC g.out
    go_wp2_with fail
    refine (yH S m p src _ (bv.out.below u.out) (by omega)).mono ?_
    rintro _ w1 ⟨A1, c1, rfl, o1, b1⟩
    have aP := Hd (o1.more u.out.size)
    have U := Hd (aA u.out b1)
    clear o1 b1
    go_wp2_with fail
    go_ret
    exact ⟨_, _, _, rfl, by rw [HR.out]; exact aP.out, U.out⟩
  have k3 : kd = 3 := by have := iL hK; omega
  subst k3
  clear k0 k1 k2
  have HR : Hid (jA l ⟨3, it, es⟩ = fD l es) := rfl
  have ay : Hid (∀ e ∈ es, dG l e) := kJ.1 hK
  clear hK
  have bq := G
  go_enter Tryz.func125, Tryz.ntmps125
  go_upto_region 1 with fail
  generalize (w.alloc (.cells (ai l SA LA OA sn sc ln lc on oc) 41)).alloc (.cells #[.int .i64 3, .int .i64 it, .slice EA q ec] 89) = W9 at *
  have x0 := aF (k := 0) G.out rfl
  have y0 := aF (k := 0) g.out rfl
  have y1 := aF (k := 1) g.out rfl
  have y2 := aF (k := 2) g.out rfl
  have lx := aC G.out
  have ly := aC g.out
  go_wp2_with fail
  clear x0 y0 y1 y2 lx ly
  go_loopw [5, 39] (fun v i wr => ∃ (k : Nat) (H : Option Addr) (K : Nat), k <= q /\ i = .int .i64 k /\ v = .slice H k K /\ aJ W9 wr [.cel (aH ((es.take k).map (dA l))) (.slice H k K)]) (fun _ i _ => q - (intOf i).toNat)
  case atStart => exact ⟨0, none, 0, Nat.zero_le _, rfl, rfl, (aJ.refl W9).pushNil 3 1⟩
  obtain ⟨k, H, K, hk, rfl, rfl, hs⟩ := hrel
  have HS := Hd hs
  clear hs
  by_cases aQ : k < q
  · have av : decide ((k : Int) < (q : Int)) = true := by simp; omega
    have D : k < es.length := by rw [ae.out]; exact aQ
    obtain ⟨be, oe, rfl, I, c0, c1⟩ := HE.out.es (k := k) D
    have Z := aA u.out HS.out.bel
    have bC := aK Z I
    rw [← Z.cell (p := ⟨be, oe + k * 2, none⟩) I] at c0
    rw [← Z.cell (p := ⟨be, oe + k * 2 + 1, none⟩) I] at c1
    clear Z
    have Q := Hd (ay.out _ (List.getElem_mem D))
    have aM : Hid ((es.take (k + 1)).map (dA l) = (es.take k).map (dA l) ++ [dA l ⟨(es[k]?.getD LeT.zero).lut, (es[k]?.getD LeT.zero).ff⟩]) := by show _ = _; rw [bU (z := LeT.zero) D, List.map_append]; rfl
    rw [show es[k] = es[k]?.getD LeT.zero by rw [List.getElem?_eq_getElem D]; rfl] at Q
    clear D
    generalize es[k]?.getD LeT.zero = e at *
    have B := aD (aB (Below.refl wr.heap.size wr) (.cells #[.int .i64 e.lut, .int .i64 e.ff] 94)) (aD HS.out.bel bq.out)
    have x0 := aF (k := 0) B rfl
    have x1 := aF (k := 1) B rfl
    have x2 := aF (k := 2) B rfl
    have x3 := aF (k := 3) B rfl
    have lx := aC B
    have hq := aI wr (.cells #[.int .i64 e.lut, .int .i64 e.ff] 94)
    have q0 := aF (k := 0) hq rfl
    have q1 := aF (k := 1) hq rfl
    have lq := aC hq
    have i0 : (0 : Int) <= (k : Int) := by omega
    have i1 : (k : Int) < (q : Int) := by omega
    have a4 := Hd (HS.out.alloc (.cells #[.int .i64 e.lut, .int .i64 e.ff] 94))
    clear B hq
    go_wp2_with fail
    refine (qK l SA LA OA sn sc ln lc on oc e.lut e.ff _ (HN.out.below (aA u.out a4.out.bel)) HF.out Q.out).mono ?_
    rintro _ w1 ⟨rfl, b1⟩
    have bD := Hd (a4.out.below b1)
    clear b1 x0 x1 x2 x3 lx q0 q1 lq c0 c1
    generalize dA l ⟨e.lut, e.ff⟩ = Y at *
    go_wp2_with (at_builtin; refine gF rfl _ _ rfl _ (bD.out.alloc _) 0 H k K ((es.take k).map (dA l)) Y _ (0, 0) rfl rfl rfl (aI _ _) (by omega) ?_; intro g9 ch w9 S9 bA; have bM := Hd S9; clear S9 bA)
    go_roundw
    case rel => exact ⟨k + 1, _, _, by omega, by go_num, rfl, by rw [aM.out]; exact bM.out⟩
    case measure => simp [intOf]; omega
  have R : k = q := by omega
  have av : decide ((k : Int) < (q : Int)) = false := by simp; omega
  have W : Hid (aJ W9 wr [.cel (aH (es.map (dA l))) (.slice H q K)]) := by
    have h := HS.out
    rwa [R, List.take_of_length_le (by rw [ae.out]; exact Nat.le_refl _)] at h
  subst R
  clear HS
  have bR := Hd W.out.bel
  have ap := Hd (aA u.out W.out.bel)
  have bW := Hd (W.out.ints 0 rfl)
  have y2 := aF (k := 2) (aD W.out.bel g.out) rfl
  have ly := aC (aD W.out.bel g.out)
  clear W
  obtain ⟨wo, rfl⟩ : ∃ y, y = wr := ⟨wr, rfl⟩
  obtain ⟨OB, rfl⟩ : ∃ x, x = H := ⟨H, rfl⟩
  obtain ⟨bH, rfl⟩ : ∃ x, x = K := ⟨K, rfl⟩
  obtain ⟨q, rfl⟩ : ∃ x, x = k := ⟨k, rfl⟩
  go_wp2_with fail
  clear y2 ly
  go_loopw [6, 53] (fun v i wr => ∃ (k : Nat) (H : Option Addr) (n' K : Nat), k <= q /\ i = .int .i64 k /\ v = .slice H n' K /\ Own w.heap.size wr H n' K (asc (((es.take k).flatMap (iB l)).filter fun x => decide (x ∉ es.map (dA l)))) /\ Below wo.heap.size wo wr) (fun _ i _ => q - (intOf i).toNat)
  case atStart => exact ⟨0, _, _, _, Nat.zero_le _, rfl, rfl, Own.nil, Below.refl _ _⟩
  obtain ⟨k, H, n', K, hk, rfl, rfl, ho, hb⟩ := hrel
  have HO := Hd ho
  have a7 := Hd hb
  have hB := Hd (aA ap.out hb)
  clear ho hb
  by_cases aQ : k < q
  · have av : decide ((k : Int) < (q : Int)) = true := by simp; omega
    have D : k < es.length := by rw [ae.out]; exact aQ
    obtain ⟨be, oe, rfl, I, c0, c1⟩ := HE.out.es (k := k) D
    have bC := aK hB.out I
    rw [← hB.out.cell (p := ⟨be, oe + k * 2, none⟩) I] at c0
    rw [← hB.out.cell (p := ⟨be, oe + k * 2 + 1, none⟩) I] at c1
    have Q := Hd (ay.out _ (List.getElem_mem D))
    have aM := Hd (show (es.take (k + 1)).flatMap (iB l) = (es.take k).flatMap (iB l) ++ iB l ⟨(es[k]?.getD LeT.zero).lut, (es[k]?.getD LeT.zero).ff⟩ from by rw [bU (z := LeT.zero) D, List.flatMap_append, List.flatMap_singleton])
    have bu : Hid (((es.take k).flatMap (iB l)).length <= 4 * k) := by
      show _ <= _
      have h := kg (f := iB l) (m := 4) (xs := es.take k) fun e he => (mZ HF.out (ay.out e (List.mem_of_mem_take he))).1
      rw [List.length_take] at h
      have h2 : min k es.length * 4 <= k * 4 := Nat.mul_le_mul_right 4 (Nat.min_le_left _ _)
      omega
    rw [show es[k] = es[k]?.getD LeT.zero by rw [List.getElem?_eq_getElem D]; rfl] at Q
    have bP := Hd (mZ HF.out Q.out).1
    clear D
    generalize es[k]?.getD LeT.zero = e at *
    have B := aD (aB (Below.refl wr.heap.size wr) (.cells #[.int .i64 e.lut, .int .i64 e.ff] 94)) (aD (aA bR.out a7.out) G.out)
    have x0 := aF (k := 0) B rfl
    have x1 := aF (k := 1) B rfl
    have x2 := aF (k := 2) B rfl
    have x3 := aF (k := 3) B rfl
    have lx := aC B
    have hq := aI wr (.cells #[.int .i64 e.lut, .int .i64 e.ff] 94)
    have q0 := aF (k := 0) hq rfl
    have q1 := aF (k := 1) hq rfl
    have lq := aC hq
    have i0 : (0 : Int) <= (k : Int) := by omega
    have i1 : (k : Int) < (q : Int) := by omega
    have a2 := Hd (aB a7.out (.cells #[.int .i64 e.lut, .int .i64 e.ff] 94))
    have br := Hd (HO.out.below (aB (Below.refl _ _) (.cells #[.int .i64 e.lut, .int .i64 e.ff] 94)))
    clear B hq
    go_wp2_with fail
    refine (yR l SA LA OA sn sc ln lc on oc e.lut e.ff _ (HN.out.below (aA ap.out a2.out)) HF.out Q.out).mono ?_
    rintro _ w1 ⟨IA, m, ic, rfl, oi, b1⟩
    have ak := Hd oi.ints
    have U := Hd (aA a2.out b1)
    have aP := Hd (br.out.below b1)
    clear b1 oi x0 x1 x2 x3 lx q0 q1 lq c0 c1
    have bw : m <= 4 := by rw [← ak.out.1]; exact bP.out
    generalize iB l ⟨e.lut, e.ff⟩ = src at *
    generalize (es.take k).flatMap (iB l) = BS at *
    go_wp2_with fail
    go_loopw [6, 61] (fun v i wr => ∃ (j : Nat) (H : Option Addr) (n' K : Nat), j <= m /\ i = .int .i64 j /\ v = .slice H n' K /\ Own w.heap.size wr H n' K (asc ((BS ++ src.take j).filter fun x => decide (x ∉ es.map (dA l)))) /\ Below w1.heap.size w1 wr) (fun _ i _ => m - (intOf i).toNat)
    case atStart => exact ⟨0, _, _, _, Nat.zero_le _, rfl, rfl, by rw [List.take_zero, List.append_nil]; exact aP.out, Below.refl _ _⟩
    obtain ⟨j, A3, n3, c3, hj, rfl, rfl, ho, hb⟩ := hrel
    have af := Hd ho
    have J := Hd hb
    have V := ho.len
    clear ho hb
    by_cases am : j < m
    · have bG : decide ((j : Int) < (m : Int)) = true := by simp; omega
      obtain ⟨bs, os, rfl, a8, aV⟩ := ak.out.2 (by omega)
      have bX := (J.out.cell (p := ⟨bs, os + j, none⟩) a8).trans (aV j am)
      have bz := aK J.out a8
      have aU : j < src.length := by rw [ak.out.1]; exact am
      have hg := mI (fun x => decide (x ∉ es.map (dA l))) (BS ++ src.take j) (src[j]?.getD 0)
      rw [List.append_assoc, ← bU aU] at hg
      have HG := Hd hg
      have bN := jQ ((BS ++ src.take j).filter fun x => decide (x ∉ es.map (dA l)))
      have a1 := List.length_filter_le (fun x => decide (x ∉ es.map (dA l))) (BS ++ src.take j)
      rw [List.length_append, List.length_take] at a1
      have bB := bu.out
      have cr : n3 <= 1048576 := by omega
      clear hg aV bN a1 V aU bB
      generalize asc ((BS ++ src.take j).filter fun x => decide (x ∉ es.map (dA l))) = ys at *
      generalize src[j]?.getD 0 = x at *
      have i2 : (0 : Int) <= (j : Int) := by omega
      have i3 : (j : Int) < (m : Int) := by omega
      go_wp2_with fail
      refine (nK OB q bH (es.map (dA l)) x _ (bW.out.below (aA U.out J.out)) (by omega)).mono ?_
      rintro _ w2 ⟨rfl, rfl⟩
      by_cases B : x ∈ es.map (dA l)
      · have aL : Hid (asc ((BS ++ src.take (j + 1)).filter fun x => decide (x ∉ es.map (dA l))) = ys) := by show _ = _; rw [HG.out, if_neg (by simp only [decide_eq_true_eq]; exact fun h => h B)]
        rw [decide_eq_true B]
        clear HG B
        go_wp2_with fail
        go_roundw
        case rel => exact ⟨j + 1, _, _, _, by omega, by go_num, rfl, by rw [aL.out]; exact af.out, J.out⟩
        case measure => simp [intOf]; omega
      have aL : Hid (asc ((BS ++ src.take (j + 1)).filter fun x => decide (x ∉ es.map (dA l))) = ins ys x) := by show _ = _; rw [HG.out, if_pos (decide_eq_true B)]
      rw [decide_eq_false B]
      clear HG B
      go_wp2_with fail
      refine (jR w.heap.size A3 n3 c3 ys x _ af.out (by have h1 := U.out.size; have h2 := J.out.size; have h3 := ap.out.size; omega) (by omega)).mono ?_
      rintro _ w4 ⟨A2, n2, c2, rfl, o2, b2⟩
      have bI := Hd o2
      have bY := Hd (aA J.out b2)
      clear o2 b2 bX bz
      go_wp2_with fail
      go_roundw
      case rel => exact ⟨j + 1, _, _, _, by omega, by go_num, rfl, by rw [aL.out]; exact bI.out, bY.out⟩
      case measure => simp [intOf]; omega
    have aY : j = m := by omega
    have bG : decide ((j : Int) < (m : Int)) = false := by simp; omega
    have W : Hid (Own w.heap.size wr A3 n3 c3 (asc (((es.take (k + 1)).flatMap (iB l)).filter fun x => decide (x ∉ es.map (dA l))))) := by
      have h := af.out
      rw [aM.out]
      rwa [aY, List.take_of_length_le (by rw [ak.out.1]; exact Nat.le_refl _)] at h
    clear af aY
    go_wp2_with fail
    go_roundw
    case rel => exact ⟨k + 1, _, _, _, by omega, by go_num, rfl, W.out, aA U.out J.out⟩
    case measure => simp [intOf]; omega
  have R : k = q := by omega
  have av : decide ((k : Int) < (q : Int)) = false := by simp; omega
  have W : Hid (Own w.heap.size wr H n' K (fD l es)) := by
    have h := HO.out
    rwa [R, List.take_of_length_le (by rw [ae.out]; exact Nat.le_refl _)] at h
  clear HO R
  go_wp2_with fail
  go_ret
  exact ⟨_, _, _, rfl, by rw [HR.out]; exact W.out, hB.out⟩
end Go.Proofs.YtofihjoanjkdmaaGreat
