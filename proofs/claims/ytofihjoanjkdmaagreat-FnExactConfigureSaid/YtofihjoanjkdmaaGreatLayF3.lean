/- The program's counts of uses (printed by mkuse.py). -/
import Derived.Test.YtofihjoanjkdmaaGreatCopies
import Derived.Test.YtofihjoanjkdmaaGreatLayRd
import Derived.Test.YtofihjoanjkdmaaGreatLayUP
import Derived.Test.YtofihjoanjkdmaaGreatRt4
namespace Go.Proofs.YtofihjoanjkdmaaGreat
set_option maxHeartbeats 4000000
set_option maxRecDepth 100000
open Go.RowKit
theorem wP (l:ag) (SA LA OA:Option Addr) (sn sc ln lc on oc:Nat) (w:World) (h:fU w l SA LA OA sn sc ln lc on oc) (hf:az l) :
  Calls Tryz.prog 248 #[jE l SA LA OA sn sc ln lc on oc] w fun e w'=>∃A,e = .returned (.slice A l.count l.count)/\Own w.heap.size w' A l.count l.count (aG l.count (ko l))/\Below w.heap.size w w':=by
 have bl:=Hd (aB (Below.refl w.heap.size w) (.cells (ai l SA LA OA sn sc ln lc on oc) 41))
 have bf:=Hd (aI w (.cells (ai l SA LA OA sn sc ln lc on oc) 41))
 obtain ⟨aV,aT,a0⟩:=h.lens
 have h1:=hf.nseq
 have h2:=hf.nlut
 have h3:=hf.nout
 have bE:=Hd hf.inp
 have bg:=hf.inp
 obtain ⟨HN,HF,aF,aO,bH⟩:=hd5 h hf aT aV a0
 have hC:1+l.inputs+(sn:Int)+(ln:Int)=(l.count:Int):=by unfold ag.count ag.first;omega
 have aX:Hid ((l.first:Int)+(ln:Int)=(l.count:Int)):=by show _=_;unfold ag.count;omega
 obtain ⟨C,ax⟩:∃C,l.count=C:=⟨_,rfl⟩
 have aL:=Hd ax
 rw [ax] at hC
 have bJ:C<=433:=by omega
 have G:sn<=12:=by omega
 have bK:ln<=400:=by omega
 have bD:on<=16:=by omega
 obtain ⟨i0,hi,a2,a5,a3⟩:=info_parts jL
 have aU:=fun W=>bv (P:=Tryz.prog) 26 3 i0 _ Tryz.underlying26 hi a2 .i64 .i64 C C (Nat.le_refl _) (by rw [a3];omega) (by omega) W
 rw [a5,Nat.mul_one,show (Value.int .i64 0).cells=#[Value.int .i64 0] from rfl,nu] at aU
 have HC:=Hd hC
 rw [ax]
 clear h hf aV aT a0 h1 h2 h3 ax hi a2 a5 a3 hC
 go_enter Tryz.func248,Tryz.ntmps248
 go_wp2_with fail
 refine (tJ l.inputs SA LA OA sn sc ln lc on oc _ (by omega) (by omega) (by omega) (by omega)).mono ?_
 rw [HC.out]
 rintro _ z ⟨rfl,b1⟩
 have aw:=Hd (aD b1 bf.out)
 have H:=Hd (aA bl.out b1)
 have aE:=(aJ.refl z).consOwn (aB (Below.refl _ _) (.cells (arr (List.replicate C 0)) 3)) (Own.arr (n:=C) (aI z _) (Nat.le_refl _) (by unfold maxLen;omega) (by simp))
 have bj:=Hd (show aJ z (z.alloc (.cells (arr (List.replicate C 0)) 3)) [.cel (aH (aG C ((l.luts.take 0).flatMap Lt.ins))) (.slice (some ⟨z.heap.size,0,none⟩) C C)] from by
  rw [List.take_zero,List.flatMap_nil,pu]
  exact aE)
 have bk:=Hd (aD aE.bel aw.out)
 clear b1 aE bg
 have hx:=bk.out
 obtain ⟨x0,x1,x2,x3,lx⟩:=cO hx
 have bF:w.heap.size≠z.heap.size:=by have:=aC aw.out;omega
 clear hx
 go_wp2_with fail
 clear x0 x1 x2 x3 lx aU
 go_loopw [20] (fun i wr=>∃k:Nat,k<=ln/\i = .int .i64 (k:Int)/\aJ z wr [.cel (aH (aG C ((l.luts.take k).flatMap Lt.ins))) (.slice (some ⟨z.heap.size,0,none⟩) C C)]) (fun i _=>ln - (intOf i).toNat)
 ·exact ⟨0,by omega,rfl,bj.out⟩
 obtain ⟨k,hk,rfl,hs⟩:=hrel
 have g:=Hd hs
 clear hs
 by_cases av:k<ln
 ·have aP:=dT (by omega:k<ln)
  obtain ⟨b,o,S,m,p,hA,J,c0,c1,r2⟩:=HN.out.lt.lut' (k:=k) (by rw [aF.out];exact av)
  have Y:=aA H.out g.out.bel
  have bb:=aK Y J
  have c0:=(Y.cell (p:=⟨b,o+k * 2,none⟩) J).trans c0
  have c1:=(Y.cell (p:=⟨b,o+k * 2+1,none⟩) J).trans c1
  have aQ:=Hd r2
  have Z:k<l.luts.length:=by rw [aF.out];exact av
  have ak:=Hd (show ((l.luts.take k).flatMap Lt.ins)++(l.luts[k]?.getD Lt.zero).ins=(l.luts.take (k+1)).flatMap Lt.ins from by rw [wS Z])
  have ar:Hid (∀n∈(l.luts[k]?.getD Lt.zero).ins,0<=n/\n<(C:Int)):=fun n hn=>by
   have h:=(HF.out.luts k Z).2.2 n hn
   have h2:=aL.out
   have h3:=aX.out
   omega
  have aj:Hid (((l.luts.take k).flatMap Lt.ins).length+(l.luts[k]?.getD Lt.zero).ins.length<=3000):=by
   show _<=_
   have h1:=congrArg List.length ak.out
   rw [List.length_append] at h1
   have h2:=jM HF.out (k+1)
   have h3:=mf HF.out (k+1)
   have h4:=jM HF.out l.luts.length
   rw [List.take_length] at h4
   (try simp only [List.length_append] at h1 ⊢)
   omega
  subst hA
  clear r2 Z
  generalize l.luts[k]?.getD Lt.zero=x at *
  generalize (l.luts.take k).flatMap Lt.ins=BS at *
  have aM:=Hd (g.out.alloc (.cells #[.slice S m p,.int .i64 x.mask] 96))
  obtain ⟨i0,i1⟩:=ib (by omega:k<ln)
  obtain ⟨y0,ly⟩:=wO (aI wr (.cells #[.slice S m p,.int .i64 x.mask] 96))
  obtain ⟨wo,rfl⟩:∃y,y=wr:=⟨wr,rfl⟩
  go_wp2_with fail
  clear c0 c1 y0 ly
  go_loopw [27] (fun i wr=>∃j:Nat,j<=m/\i = .int .i64 (j:Int)/\aJ z wr [.cel (aH (aG C (lI (BS) (x.ins) j))) (.slice (some ⟨z.heap.size,0,none⟩) C C)]) (fun i _=>m - (intOf i).toNat)
  ·exact ⟨0,by omega,rfl,by rw [mg];exact aM.out⟩
  obtain ⟨j,hj,rfl,hs⟩:=hrel
  have g:=Hd hs
  have u:=Hd (aQ.out.ints)
  by_cases D:j<m
  ·have am:=dT (by omega:j<m)
   obtain ⟨bt,ot,hA,Q,V⟩:=u.out.2 (by omega)
   have HA:=Hd hA
   have ao:=((aA H.out hs.bel).cell (p:=⟨bt,ot+j,none⟩) Q).trans (V j D)
   have aY:=aK (aA H.out hs.bel) Q
   have B:j<(x.ins).length:=by rw [u.out.1];exact D
   have R:=ar.out _ (List.getElem_mem B)
   have G:=mi (bs:=BS) B
   rw [List.getElem?_eq_getElem B,Option.getD_some] at ao G
   have U:=ol (BS) (x.ins) j
   have K:=aj.out
   have ah:=u.out.1
   generalize (x.ins)[j]=x at *
   obtain ⟨X,rfl⟩:=Int.eq_ofNat_of_zero_le R.1
   have aq:X<C:=by omega
   obtain ⟨cX,fX,lX,hN⟩:=om hs aq
   rw [G] at hN
   have al:=fC (lI (BS) (x.ins) j) (X:Int)
   have ap:=Hd hN
   clear hN G V hs
   generalize cnt (lI (BS) (x.ins) j) (X:Int)=q at *
   have hq:q<=10000:=by omega
   have aW:j<=10000:=by omega
   clear al U K ah B R
   obtain ⟨i0,i1⟩:=ib (by omega:j<m)
   obtain ⟨i2,i3⟩:=ib (by omega:X<C)
   subst hA
   go_wp2_with fail
   go_roundw
   ·exact ⟨j+1,by omega,by go_num,ap.out⟩
   simp [intOf];omega
  have I:j=m:=by omega
  have am:=dF (by omega:m<=j)
  have HD:=Hd (show aJ z wr [.cel (aH (aG C ((BS)++(x.ins)))) (.slice (some ⟨z.heap.size,0,none⟩) C C)] from by rw [←mh u.out.1,←I];exact hs)
  clear hs u g I
  have aN:=Hd (show aJ z wr [.cel (aH (aG C ((l.luts.take (k+1)).flatMap Lt.ins))) (.slice (some ⟨z.heap.size,0,none⟩) C C)] from by rw [←ak.out];exact HD.out)
  go_wp2_with fail
  go_roundw
  ·exact ⟨k+1,by omega,by go_num,aN.out⟩
  simp [intOf];omega
 have af:k=ln:=by omega
 have aP:=dF (by omega:ln<=k)
 have bc:=Hd (show aJ z wr [.cel (aH (aG C (l.luts.flatMap Lt.ins++(l.seqs.take 0).flatMap Sq.ins))) (.slice (some ⟨z.heap.size,0,none⟩) C C)] from by
  have h:=g.out
  rw [af,←aF.out,List.take_length] at h
  simpa using h)
 obtain ⟨-,x1,lx⟩:=jv (aD g.out.bel aw.out)
 clear af g
 obtain ⟨wo,rfl⟩:∃y,y=wr:=⟨wr,rfl⟩
 go_wp2_with fail
 clear x1 lx
 go_loopw [42] (fun i wr=>∃k:Nat,k<=sn/\i = .int .i64 (k:Int)/\aJ z wr [.cel (aH (aG C (l.luts.flatMap Lt.ins++(l.seqs.take k).flatMap Sq.ins))) (.slice (some ⟨z.heap.size,0,none⟩) C C)]) (fun i _=>sn - (intOf i).toNat)
 ·exact ⟨0,by omega,rfl,bc.out⟩
 obtain ⟨k,hk,rfl,hs⟩:=hrel
 have g:=Hd hs
 clear hs
 by_cases av:k<sn
 ·have aP:=dT (by omega:k<sn)
  obtain ⟨b,o,S,m,p,hA,J,c0,c1,c2,r2⟩:=HN.out.sq.sq' (k:=k) (by rw [aO.out];exact av)
  have Y:=aA H.out g.out.bel
  have bb:=aK Y J
  have c0:=(Y.cell (p:=⟨b,o+k * 3,none⟩) J).trans c0
  have c1:=(Y.cell (p:=⟨b,o+k * 3+1,none⟩) J).trans c1
  have c2:=(Y.cell (p:=⟨b,o+k * 3+2,none⟩) J).trans c2
  have aQ:=Hd r2
  have Z:k<l.seqs.length:=by rw [aO.out];exact av
  have ak:=Hd (show (l.luts.flatMap Lt.ins++(l.seqs.take k).flatMap Sq.ins)++(l.seqs[k]?.getD Sq.zero).ins=l.luts.flatMap Lt.ins++(l.seqs.take (k+1)).flatMap Sq.ins from by rw [List.append_assoc,uZ Z])
  have ar:Hid (∀n∈(l.seqs[k]?.getD Sq.zero).ins,0<=n/\n<(C:Int)):=fun n hn=>by
   have h:=(HF.out.seqs k Z).2 n hn
   have h2:=aL.out
   have h3:=aX.out
   omega
  have aj:Hid ((l.luts.flatMap Lt.ins++(l.seqs.take k).flatMap Sq.ins).length+(l.seqs[k]?.getD Sq.zero).ins.length<=3000):=by
   show _<=_
   have h1:=congrArg List.length ak.out
   rw [List.length_append] at h1
   have h2:=jM HF.out (k+1)
   have h3:=mf HF.out (k+1)
   have h4:=jM HF.out l.luts.length
   rw [List.take_length] at h4
   (try simp only [List.length_append] at h1 ⊢)
   omega
  subst hA
  clear r2 Z
  generalize l.seqs[k]?.getD Sq.zero=x at *
  generalize l.luts.flatMap Lt.ins++(l.seqs.take k).flatMap Sq.ins=BS at *
  have aM:=Hd (g.out.alloc (.cells #[.int .i64 x.kind,.int .i64 x.init,.slice S m p] 91))
  obtain ⟨i0,i1⟩:=ib (by omega:k<sn)
  obtain ⟨-,-,y2,ly⟩:=jX (aI wr (.cells #[.int .i64 x.kind,.int .i64 x.init,.slice S m p] 91))
  obtain ⟨wo,rfl⟩:∃y,y=wr:=⟨wr,rfl⟩
  go_wp2_with fail
  clear c0 c1 c2 y2 ly
  go_loopw [49] (fun i wr=>∃j:Nat,j<=m/\i = .int .i64 (j:Int)/\aJ z wr [.cel (aH (aG C (lI (BS) (x.ins) j))) (.slice (some ⟨z.heap.size,0,none⟩) C C)]) (fun i _=>m - (intOf i).toNat)
  ·exact ⟨0,by omega,rfl,by rw [mg];exact aM.out⟩
  obtain ⟨j,hj,rfl,hs⟩:=hrel
  have g:=Hd hs
  have u:=Hd (aQ.out.ints)
  by_cases D:j<m
  ·have am:=dT (by omega:j<m)
   obtain ⟨bt,ot,hA,Q,V⟩:=u.out.2 (by omega)
   have HA:=Hd hA
   have ao:=((aA H.out hs.bel).cell (p:=⟨bt,ot+j,none⟩) Q).trans (V j D)
   have aY:=aK (aA H.out hs.bel) Q
   have B:j<(x.ins).length:=by rw [u.out.1];exact D
   have R:=ar.out _ (List.getElem_mem B)
   have G:=mi (bs:=BS) B
   rw [List.getElem?_eq_getElem B,Option.getD_some] at ao G
   have U:=ol (BS) (x.ins) j
   have K:=aj.out
   have ah:=u.out.1
   generalize (x.ins)[j]=x at *
   obtain ⟨X,rfl⟩:=Int.eq_ofNat_of_zero_le R.1
   have aq:X<C:=by omega
   obtain ⟨cX,fX,lX,hN⟩:=om hs aq
   rw [G] at hN
   have al:=fC (lI (BS) (x.ins) j) (X:Int)
   have ap:=Hd hN
   clear hN G V hs
   generalize cnt (lI (BS) (x.ins) j) (X:Int)=q at *
   have hq:q<=10000:=by omega
   have aW:j<=10000:=by omega
   clear al U K ah B R
   obtain ⟨i0,i1⟩:=ib (by omega:j<m)
   obtain ⟨i2,i3⟩:=ib (by omega:X<C)
   subst hA
   go_wp2_with fail
   go_roundw
   ·exact ⟨j+1,by omega,by go_num,ap.out⟩
   simp [intOf];omega
  have I:j=m:=by omega
  have am:=dF (by omega:m<=j)
  have HD:=Hd (show aJ z wr [.cel (aH (aG C ((BS)++(x.ins)))) (.slice (some ⟨z.heap.size,0,none⟩) C C)] from by rw [←mh u.out.1,←I];exact hs)
  clear hs u g I
  have aN:=Hd (show aJ z wr [.cel (aH (aG C (l.luts.flatMap Lt.ins++(l.seqs.take (k+1)).flatMap Sq.ins))) (.slice (some ⟨z.heap.size,0,none⟩) C C)] from by rw [←ak.out];exact HD.out)
  go_wp2_with fail
  go_roundw
  ·exact ⟨k+1,by omega,by go_num,aN.out⟩
  simp [intOf];omega
 have af:k=sn:=by omega
 have aP:=dF (by omega:sn<=k)
 have a9:=Hd (show aJ z wr [.cel (aH (aG C (l.luts.flatMap Lt.ins++l.seqs.flatMap Sq.ins))) (.slice (some ⟨z.heap.size,0,none⟩) C C)] from by
  have h:=g.out
  rwa [af,←aO.out,List.take_length] at h)
 obtain ⟨-,-,-,x3,lx⟩:=cO (aD g.out.bel aw.out)
 clear af g
 have ar:Hid (∀n∈l.outs,0<=n/\n<(C:Int)):=fun n hn=>by
  have h:=HF.out.outs n hn
  have h2:=aL.out
  omega
 have aj:Hid ((l.luts.flatMap Lt.ins++l.seqs.flatMap Sq.ins).length+l.outs.length<=3000):=by
  show _<=_
  have h3:=mf HF.out l.seqs.length
  have h4:=jM HF.out l.luts.length
  rw [List.take_length] at h3 h4
  have h5:=HF.out.nout
  rw [List.length_append]
  omega
 obtain ⟨wo,rfl⟩:∃y,y=wr:=⟨wr,rfl⟩
 go_wp2_with fail
 clear x3 lx
 go_loopw [64] (fun i wr=>∃j:Nat,j<=on/\i = .int .i64 (j:Int)/\aJ z wr [.cel (aH (aG C (lI (l.luts.flatMap Lt.ins++l.seqs.flatMap Sq.ins) (l.outs) j))) (.slice (some ⟨z.heap.size,0,none⟩) C C)]) (fun i _=>on - (intOf i).toNat)
 ·exact ⟨0,by omega,rfl,by rw [mg];exact a9.out⟩
 obtain ⟨j,hj,rfl,hs⟩:=hrel
 have g:=Hd hs
 have u:=Hd (HN.out.ou.ints)
 by_cases D:j<on
 ·have am:=dT (by omega:j<on)
  obtain ⟨bt,ot,hA,Q,V⟩:=u.out.2 (by omega)
  have HA:=Hd hA
  have ao:=((aA H.out hs.bel).cell (p:=⟨bt,ot+j,none⟩) Q).trans (V j D)
  have aY:=aK (aA H.out hs.bel) Q
  have B:j<(l.outs).length:=by rw [u.out.1];exact D
  have R:=ar.out _ (List.getElem_mem B)
  have G:=mi (bs:=l.luts.flatMap Lt.ins++l.seqs.flatMap Sq.ins) B
  rw [List.getElem?_eq_getElem B,Option.getD_some] at ao G
  have U:=ol (l.luts.flatMap Lt.ins++l.seqs.flatMap Sq.ins) (l.outs) j
  have K:=aj.out
  have ah:=u.out.1
  generalize (l.outs)[j]=x at *
  obtain ⟨X,rfl⟩:=Int.eq_ofNat_of_zero_le R.1
  have aq:X<C:=by omega
  obtain ⟨cX,fX,lX,hN⟩:=om hs aq
  rw [G] at hN
  have al:=fC (lI (l.luts.flatMap Lt.ins++l.seqs.flatMap Sq.ins) (l.outs) j) (X:Int)
  have ap:=Hd hN
  clear hN G V hs
  generalize cnt (lI (l.luts.flatMap Lt.ins++l.seqs.flatMap Sq.ins) (l.outs) j) (X:Int)=q at *
  have hq:q<=10000:=by omega
  have aW:j<=10000:=by omega
  clear al U K ah B R
  obtain ⟨i0,i1⟩:=ib (by omega:j<on)
  obtain ⟨i2,i3⟩:=ib (by omega:X<C)
  subst hA
  go_wp2_with fail
  go_roundw
  ·exact ⟨j+1,by omega,by go_num,ap.out⟩
  simp [intOf];omega
 have I:j=on:=by omega
 have am:=dF (by omega:on<=j)
 have HD:=Hd (show aJ z wr [.cel (aH (aG C ((l.luts.flatMap Lt.ins++l.seqs.flatMap Sq.ins)++(l.outs)))) (.slice (some ⟨z.heap.size,0,none⟩) C C)] from by rw [←mh u.out.1,←I];exact hs)
 clear hs u g I
 go_wp2_with fail
 go_ret
 exact ⟨_,rfl,(HD.out.owned 0 rfl).more (by have:=H.out.size;omega),aA H.out HD.out.bel⟩
theorem nI {l:ag} {a b:Int}:dG l ⟨a,b⟩↔(-1<=a/\a<(l.luts.length:Int))/\(-1<=b/\b<(l.seqs.length:Int))/\¬(a=-1/\b=-1)/\(0<=b→(l.seqs[b.toNat]?.getD Sq.zero).kind=0) /\
  (0<=a→0<=b→(l.seqs[b.toNat]?.getD Sq.zero).ins[0]?.getD 0=(l.first:Int)+a/\Ad l ((l.first:Int)+a)=1) :=
 ⟨fun h=>⟨h.lut,h.ff,h.one,h.flop,h.both⟩,fun h=>⟨h.1,h.2.1,h.2.2.1,h.2.2.2.1,h.2.2.2.2⟩⟩
theorem qK (l:ag) (SA LA OA:Option Addr) (sn sc ln lc on oc:Nat) (a b:Int) (w:World) (h:fU w l SA LA OA sn sc ln lc on oc) (hf:az l) (he:dG l ⟨a,b⟩) :
  Calls Tryz.prog 142 #[jE l SA LA OA sn sc ln lc on oc,.agg #[.int .i64 a,.int .i64 b]] w fun e w'=>e = .returned (.int .i64 (dA l ⟨a,b⟩))/\Below w.heap.size w w':=by
 have g:dA l ⟨a,b⟩=if 0<=b then 1+l.inputs+b else (l.first:Int)+a:=rfl
 obtain ⟨e1,e2,e3,_⟩:=nI.1 he
 have u:=h.lens.1
 have z:=h.lens.2.1
 rw [u] at e2
 rw [z] at e1
 clear u z
 have K:=Hd (aB (aB (Below.refl w.heap.size w) (.cells (ai l SA LA OA sn sc ln lc on oc) 41)) (.cells #[.int .i64 a,.int .i64 b] 94))
 have hx:=aW (.cells #[.int .i64 a,.int .i64 b] 94) (aI w (.cells (ai l SA LA OA sn sc ln lc on oc) 41))
 have hy:=aI (w.alloc (.cells (ai l SA LA OA sn sc ln lc on oc) 41)) (.cells #[.int .i64 a,.int .i64 b] 94)
 simp only [World.size_alloc] at hy
 obtain ⟨q,j⟩:=hd2 hx hy
 clear hx hy
 obtain ⟨G,B,D⟩:=h.lens
 have V:=hf.nseq
 have Z:=hf.nlut
 have R:=hf.nout
 have Q:=hf.inp
 rw [G] at V
 rw [B] at Z
 rw [D] at R
 obtain ⟨HN,HF,aw,au,ay⟩:=hd5 h hf G B D
 have W:Hid ((l.first:Int)=1+l.inputs+(sn:Int)):=by show _=_;unfold ag.first;omega
 have av:Hid ((l.count:Int)=1+l.inputs+(sn:Int)+(ln:Int)):=by show _=_;unfold ag.count ag.first;omega
 clear h hf G B D
 by_cases h0:0<=b
 ·have d0:decide (b≥0)=true:=decide_eq_true h0
  rw [if_pos h0] at g
  have H:=Hd g
  clear g e1 e3
  go_enter Tryz.func142,Tryz.ntmps142
  go_upto_region 1 with fail
  generalize (w.alloc (.cells (ai l SA LA OA sn sc ln lc on oc) 41)).alloc (.cells #[.int .i64 a,.int .i64 b] 94)=J at *
  have x0:=aF (k:=0) q.out rfl
  have y1:=aF (k:=1) j.out rfl
  have lx:=aC q.out
  have ly:=aC j.out
  go_wp2_with fail
  go_ret
  exact ⟨aL H.out.symm,K.out⟩
 have d0:decide (b≥0)=false:=decide_eq_false h0
 rw [if_neg h0,W.out] at g
 have H:=Hd g
 have ha:0<=a:=by omega
 clear g e2 e3 h0
 go_enter Tryz.func142,Tryz.ntmps142
 go_upto_region 1 with fail
 generalize (w.alloc (.cells (ai l SA LA OA sn sc ln lc on oc) 41)).alloc (.cells #[.int .i64 a,.int .i64 b] 94)=J at *
 obtain ⟨x0,x1,x2,x3⟩:=cs4 q.out
 obtain ⟨y0,y1⟩:=cs2 j.out
 have lx:=aC q.out
 have ly:=aC j.out
 go_upto_region 3 with fail
 have U:=Hd (fun (x:Sub J)=>kZ l.inputs SA LA OA sn sc ln lc on oc x.v Q.1 (by omega) (by omega))
 have I:=aY J
 have Y:=aP J
 refine wpB J ?_
 repeat (go_big_quiet_step ((first
  | (go_at_call 177;with_reducible exact aN (U.out _)))))
 refine wpQuiet_nil ?_
 rintro _ ⟨⟨w5,hD⟩,rfl⟩
 clear I Y
 have HD:=Hd (aA K.out hD)
 clear x0 x1 x2 x3 y0 y1 lx ly hD
 go_wp2_with fail
 go_ret
 exact ⟨aL H.out.symm,HD.out⟩
theorem Ed (l:ag) (SA LA OA:Option Addr) (sn sc ln lc on oc:Nat) (a b:Int) (w:World) (h:fU w l SA LA OA sn sc ln lc on oc) (hf:az l) :
  Calls Tryz.prog 257 #[jE l SA LA OA sn sc ln lc on oc,.agg #[.int .i64 a,.int .i64 b]] w fun e w'=>e = .returned (.bool (tb (dG l ⟨a,b⟩)))/\Below w.heap.size w w':=by
 have B:=nI (l:=l) (a:=a) (b:=b)
 have aE:=h.lens.1
 have aH:=h.lens.2.1
 rw [aE,aH] at B
 clear aE aH
 have u:=Hd (aB (aB (Below.refl w.heap.size w) (.cells (ai l SA LA OA sn sc ln lc on oc) 41)) (.cells #[.int .i64 a,.int .i64 b] 94))
 have hx:=aW (.cells #[.int .i64 a,.int .i64 b] 94) (aI w (.cells (ai l SA LA OA sn sc ln lc on oc) 41))
 have hy:=aI (w.alloc (.cells (ai l SA LA OA sn sc ln lc on oc) 41)) (.cells #[.int .i64 a,.int .i64 b] 94)
 simp only [World.size_alloc] at hy
 obtain ⟨j,g⟩:=hd2 hx hy
 clear hx hy
 obtain ⟨aQ,aJ,aX⟩:=h.lens
 have bh:=hf.nseq
 have bt:=hf.nlut
 have bg:=hf.nout
 have aV:=hf.inp
 rw [aQ] at bh
 rw [aJ] at bt
 rw [aX] at bg
 obtain ⟨HN,HF,a6,bF,bK⟩:=hd5 h hf aQ aJ aX
 have a2:Hid ((l.first:Int)=1+l.inputs+(sn:Int)):=by show _=_;unfold ag.first;omega
 have a4:Hid ((l.count:Int)=1+l.inputs+(sn:Int)+(ln:Int)):=by show _=_;unfold ag.count ag.first;omega
 clear h hf aQ aJ aX
 cases ae:inR a (-1) ((ln:Int) - 1) with
 | false =>
  have I:Hid (¬dG l ⟨a,b⟩):=fun h=>by
   have h2:=(B.1 h).1
   rw [aR.2 ⟨h2.1,by omega⟩] at ae
   cases ae
  have H1:=Hd ae
  clear ae B
  go_enter Tryz.func257,Tryz.ntmps257
  go_upto_region 1 with fail
  generalize (w.alloc (.cells (ai l SA LA OA sn sc ln lc on oc) 41)).alloc (.cells #[.int .i64 a,.int .i64 b] 94)=D at *
  have J:=aF (k:=2) j.out rfl
  have y0:=aF (k:=0) g.out rfl
  have Q:=aC j.out
  have V:=aC g.out
  go_wp2_with fail
  refine (aM a (-1) ((ln:Int) - 1) _).mono ?_
  rw [H1.out]
  rintro _ w' ⟨rfl,rfl⟩
  go_wp2_with fail
  go_ret
  exact ⟨aO I.out,u.out⟩
 | true =>
  have ha:=aR.1 ae
  have H1:=Hd ae
  clear ae
  cases ad:inR b (-1) ((sn:Int) - 1) with
  | false =>
   have I:Hid (¬dG l ⟨a,b⟩):=fun h=>by
    have h2:=(B.1 h).2.1
    rw [aR.2 ⟨h2.1,by omega⟩] at ad
    cases ad
   have H2:=Hd ad
   clear ad B
   go_enter Tryz.func257,Tryz.ntmps257
   go_upto_region 1 with fail
   generalize (w.alloc (.cells (ai l SA LA OA sn sc ln lc on oc) 41)).alloc (.cells #[.int .i64 a,.int .i64 b] 94)=D at *
   obtain ⟨-,Y,J⟩:=cs3 j.out
   obtain ⟨y0,Z⟩:=cs2 g.out
   have Q:=aC j.out
   have V:=aC g.out
   go_wp2_with fail
   refine (aM a (-1) ((ln:Int) - 1) _).mono ?_
   rw [H1.out]
   rintro _ w' ⟨rfl,rfl⟩
   go_wp2_with fail
   refine (aM b (-1) ((sn:Int) - 1) _).mono ?_
   rw [H2.out]
   rintro _ w' ⟨rfl,rfl⟩
   go_wp2_with fail
   go_ret
   exact ⟨aO I.out,u.out⟩
  | true =>
   have hb:=aR.1 ad
   have H2:=Hd ad
   clear ad
   by_cases hn:a=-1/\b=-1
   ·have I:Hid (¬dG l ⟨a,b⟩):=fun h=>(B.1 h).2.2.1 hn
    obtain ⟨rfl,rfl⟩:=hn
    clear B
    go_enter Tryz.func257,Tryz.ntmps257
    go_upto_region 1 with fail
    generalize (w.alloc (.cells (ai l SA LA OA sn sc ln lc on oc) 41)).alloc (.cells #[.int .i64 (-1),.int .i64 (-1)] 94)=D at *
    obtain ⟨-,Y,J⟩:=cs3 j.out
    obtain ⟨y0,Z⟩:=cs2 g.out
    have Q:=aC j.out
    have V:=aC g.out
    go_wp2_with fail
    refine (aM (-1) (-1) ((ln:Int) - 1) _).mono ?_
    rw [H1.out]
    rintro _ w' ⟨rfl,rfl⟩
    go_wp2_with fail
    refine (aM (-1) (-1) ((sn:Int) - 1) _).mono ?_
    rw [H2.out]
    rintro _ w' ⟨rfl,rfl⟩
    go_wp2_with fail
    go_ret
    exact ⟨aO I.out,u.out⟩
   have ah:((a==-1) && (b==-1))=false:=by simp;omega
   have av:(a==-1)=false∨(a==-1)=true/\(b==-1)=false:=by simp;omega
   by_cases aT:0<=b
   ·have d1:decide (b≥0)=true:=decide_eq_true aT
    have db:(b==-1)=false:=by simp;omega
    obtain ⟨F,rfl⟩:∃F:Nat,b=(F:Int):=⟨b.toNat,by omega⟩
    rw [Int.toNat_natCast] at B
    have hF:F<sn:=by omega
    obtain ⟨bs,os,IA,im,ic,rfl,aU,c0,c1,c2,r2⟩:=HN.out.sq.sq' (k:=F) (by rw [a6.out];exact hF)
    have bL:(l.seqs[F]?.getD Sq.zero).ins.length=im:=r2.ints.1
    have a8:=(HF.out.seqs F (by rw [a6.out];exact hF)).1
    have H:=aK u.out aU
    rw [←u.out.cell (p:=⟨bs,os+F * 3,none⟩) aU] at c0
    rw [←u.out.cell (p:=⟨bs,os+F * 3+2,none⟩) aU] at c2
    have bq:=Hd r2
    clear c1 r2
    generalize l.seqs[F]?.getD Sq.zero=s at *
    by_cases hk:s.kind=0
    ·have dk:(s.kind==0)=true:=by simp [hk]
     have bk:(s.kind != 0)=false:=by simp [hk]
     by_cases aw:0<=a
     ·have d2:decide (a≥0)=true:=decide_eq_true aw
      have da:(a==-1)=false:=by simp;omega
      obtain ⟨A,rfl⟩:∃A:Nat,a=(A:Int):=⟨a.toNat,by omega⟩
      have hA:A<ln:=by omega
      have ay:0<im:=by rcases a8 with h|h <;> omega
      obtain ⟨K,hK⟩:∃K:Nat,1+l.inputs+(sn:Int)+(A:Int)=(K:Int):=⟨(1+l.inputs+(sn:Int)+(A:Int)).toNat,by omega⟩
      have ao:K<l.count:=by have:=a4.out;omega
      have a0:Ad l ((l.first:Int)+(A:Int))=cnt (ko l) (K:Int):=by rw [ym,a2.out,hK]
      have a3:(l.first:Int)+(A:Int)=(K:Int):=by rw [a2.out,hK]
      rw [a0,a3] at B
      have bl:l.count<=1048576:=by have:=a4.out;omega
      have HK:=Hd hK
      obtain ⟨bi,oi,rfl,a7,a1⟩:=bq.out.ints.2 ay
      have ci:=a1 0 ay
      have G:=aK u.out a7
      rw [←u.out.cell (p:=⟨bi,oi+0,none⟩) a7,Nat.add_zero] at ci
      clear a1 a8 ah av a0 a3 hK
      generalize s.ins[0]?.getD 0=y at *
      have HU:=Hd (fun (v:World) (hv:Below w.heap.size w v)=>wP l (some ⟨bs,os,none⟩) LA OA sn sc ln lc on oc v (HN.out.below hv) HF.out)
      obtain ⟨C,hC⟩:∃C,l.count=C:=⟨_,rfl⟩
      rw [hC] at ao bl HU
      have HC:=Hd hC
      clear hC
      by_cases hy:y=(K:Int)
      ·by_cases hq:cnt (ko l) (K:Int)=1
       ·have I:Hid (dG l ⟨(A:Int),(F:Int)⟩):=B.2 ⟨⟨by omega,by omega⟩,⟨by omega,by omega⟩,by omega,fun _=>hk,fun _ _=>⟨hy,hq⟩⟩
        have HQ:=Hd hq
        subst hy
        clear B hq hk
        go_enter Tryz.func257,Tryz.ntmps257
        go_upto_region 1 with fail
        generalize (w.alloc (.cells (ai l (some ⟨bs,os,none⟩) LA OA sn sc ln lc on oc) 41)).alloc (.cells #[.int .i64 (A:Int),.int .i64 (F:Int)] 94)=D at *
        obtain ⟨x0,Y,J,x3⟩:=cs4 j.out
        obtain ⟨y0,Z⟩:=cs2 g.out
        have Q:=aC j.out
        have V:=aC g.out
        go_wp2_with fail
        refine (aM (A:Int) (-1) ((ln:Int) - 1) _).mono ?_
        rw [H1.out]
        rintro _ w' ⟨rfl,rfl⟩
        go_wp2_with fail
        refine (aM (F:Int) (-1) ((sn:Int) - 1) _).mono ?_
        rw [H2.out]
        rintro _ w' ⟨rfl,rfl⟩
        go_upto_region 6 with fail
        have aj:=Hd (fun (x:Sub D)=>kZ l.inputs (some ⟨bs,os,none⟩) LA OA sn sc ln lc on oc x.v aV.1 (by omega) (by omega))
        have U:=aY D
        have ak:=aP D
        refine wpB D ?_
        repeat (go_big_quiet_step ((first
         | (go_at_call 177;with_reducible exact aN (aj.out _)))))
        refine wpQuiet_nil ?_
        rintro _ ⟨⟨w5,z⟩,rfl⟩
        clear U ak
        rw [HK.out]
        have HD:=Hd (aA u.out z)
        have W:=Hd (aD z j.out)
        have R:=Hd (aD z g.out)
        have aG:=aK z H
        have ax:=aK z G
        rw [←z.cell (p:=⟨bs,os+F * 3+2,none⟩) H] at c2
        rw [←z.cell (p:=⟨bi,oi,none⟩) G] at ci
        clear x0 Y J x3 y0 Z Q V z c0 H G
        obtain ⟨x0,Y,J,x3⟩:=cs4 W.out
        have Z:=aF (k:=1) R.out rfl
        have Q:=aC W.out
        have V:=aC R.out
        go_wp2_with fail
        refine (HU.out _ HD.out).mono ?_
        rintro _ w6 ⟨UA,rfl,o6,b6⟩
        have aL:=Hd (aA HD.out b6)
        obtain ⟨bu,ou,rfl,br,am⟩:=o6.ints.2 (by omega)
        have cu:=am K ao
        rw [jb _ ao,HQ.out] at cu
        clear o6 b6 am x0 Y J x3 Z Q V c2 ci
        go_wp2_with fail
        go_ret
        exact ⟨dU I.out,aL.out⟩
       have I:Hid (¬dG l ⟨(A:Int),(F:Int)⟩):=fun h=>hq ((B.1 h).2.2.2.2 (by omega) (by omega)).2
       have bE:=fC (ko l) (K:Int)
       have HQ:=Hd hq
       subst hy
       clear B hq hk
       go_enter Tryz.func257,Tryz.ntmps257
       go_upto_region 1 with fail
       generalize (w.alloc (.cells (ai l (some ⟨bs,os,none⟩) LA OA sn sc ln lc on oc) 41)).alloc (.cells #[.int .i64 (A:Int),.int .i64 (F:Int)] 94)=D at *
       obtain ⟨x0,Y,J,x3⟩:=cs4 j.out
       obtain ⟨y0,Z⟩:=cs2 g.out
       have Q:=aC j.out
       have V:=aC g.out
       go_wp2_with fail
       refine (aM (A:Int) (-1) ((ln:Int) - 1) _).mono ?_
       rw [H1.out]
       rintro _ w' ⟨rfl,rfl⟩
       go_wp2_with fail
       refine (aM (F:Int) (-1) ((sn:Int) - 1) _).mono ?_
       rw [H2.out]
       rintro _ w' ⟨rfl,rfl⟩
       go_upto_region 6 with fail
       have aj:=Hd (fun (x:Sub D)=>kZ l.inputs (some ⟨bs,os,none⟩) LA OA sn sc ln lc on oc x.v aV.1 (by omega) (by omega))
       have U:=aY D
       have ak:=aP D
       refine wpB D ?_
       repeat (go_big_quiet_step ((first
        | (go_at_call 177;with_reducible exact aN (aj.out _)))))
       refine wpQuiet_nil ?_
       rintro _ ⟨⟨w5,z⟩,rfl⟩
       clear U ak
       rw [HK.out]
       have HD:=Hd (aA u.out z)
       have W:=Hd (aD z j.out)
       have R:=Hd (aD z g.out)
       have aG:=aK z H
       have ax:=aK z G
       rw [←z.cell (p:=⟨bs,os+F * 3+2,none⟩) H] at c2
       rw [←z.cell (p:=⟨bi,oi,none⟩) G] at ci
       clear x0 Y J x3 y0 Z Q V z c0 H G
       obtain ⟨x0,Y,J,x3⟩:=cs4 W.out
       have Z:=aF (k:=1) R.out rfl
       have Q:=aC W.out
       have V:=aC R.out
       go_wp2_with fail
       refine (HU.out _ HD.out).mono ?_
       rintro _ w6 ⟨UA,rfl,o6,b6⟩
       have aL:=Hd (aA HD.out b6)
       obtain ⟨bu,ou,rfl,br,am⟩:=o6.ints.2 (by omega)
       have cu:=am K ao
       rw [jb _ ao] at cu
       clear o6 b6 am x0 Y J x3 Z Q V c2 ci
       generalize cnt (ko l) (K:Int)=q at *
       have dq:(((q:Nat):Int)==1)=false:=by have:=HQ.out;simp;omega
       go_wp2_with fail
       go_ret
       exact ⟨aO I.out,aL.out⟩
      have I:Hid (¬dG l ⟨(A:Int),(F:Int)⟩):=fun h=>hy ((B.1 h).2.2.2.2 (by omega) (by omega)).1
      have dy:(y==(K:Int))=false:=by simp;exact hy
      clear B hk hy
      go_enter Tryz.func257,Tryz.ntmps257
      go_upto_region 1 with fail
      generalize (w.alloc (.cells (ai l (some ⟨bs,os,none⟩) LA OA sn sc ln lc on oc) 41)).alloc (.cells #[.int .i64 (A:Int),.int .i64 (F:Int)] 94)=D at *
      obtain ⟨x0,Y,J,x3⟩:=cs4 j.out
      obtain ⟨y0,Z⟩:=cs2 g.out
      have Q:=aC j.out
      have V:=aC g.out
      go_wp2_with fail
      refine (aM (A:Int) (-1) ((ln:Int) - 1) _).mono ?_
      rw [H1.out]
      rintro _ w' ⟨rfl,rfl⟩
      go_wp2_with fail
      refine (aM (F:Int) (-1) ((sn:Int) - 1) _).mono ?_
      rw [H2.out]
      rintro _ w' ⟨rfl,rfl⟩
      go_upto_region 6 with fail
      have aj:=Hd (fun (x:Sub D)=>kZ l.inputs (some ⟨bs,os,none⟩) LA OA sn sc ln lc on oc x.v aV.1 (by omega) (by omega))
      have U:=aY D
      have ak:=aP D
      refine wpB D ?_
      repeat (go_big_quiet_step ((first
       | (go_at_call 177;with_reducible exact aN (aj.out _)))))
      refine wpQuiet_nil ?_
      rintro _ ⟨⟨w5,z⟩,rfl⟩
      clear U ak
      rw [HK.out]
      have HD:=Hd (aA u.out z)
      have W:=Hd (aD z j.out)
      have R:=Hd (aD z g.out)
      have aG:=aK z H
      have ax:=aK z G
      rw [←z.cell (p:=⟨bs,os+F * 3+2,none⟩) H] at c2
      rw [←z.cell (p:=⟨bi,oi,none⟩) G] at ci
      clear x0 Y J x3 y0 Z Q V z c0 H G
      obtain ⟨x0,Y,J,x3⟩:=cs4 W.out
      have Z:=aF (k:=1) R.out rfl
      have Q:=aC W.out
      have V:=aC R.out
      go_wp2_with fail
      go_ret
      exact ⟨aO I.out,HD.out⟩
     have I:Hid (dG l ⟨a,(F:Int)⟩):=B.2 ⟨⟨by omega,by omega⟩,⟨by omega,by omega⟩,hn,fun _=>hk,fun h=>absurd h aw⟩
     have d2:decide (a≥0)=false:=decide_eq_false aw
     obtain rfl:a=-1:=by omega
     clear B hk av ah hn aw
     go_enter Tryz.func257,Tryz.ntmps257
     go_upto_region 1 with fail
     generalize (w.alloc (.cells (ai l (some ⟨bs,os,none⟩) LA OA sn sc ln lc on oc) 41)).alloc (.cells #[.int .i64 (-1),.int .i64 (F:Int)] 94)=D at *
     obtain ⟨-,Y,J⟩:=cs3 j.out
     obtain ⟨y0,Z⟩:=cs2 g.out
     have Q:=aC j.out
     have V:=aC g.out
     go_wp2_with fail
     refine (aM (-1) (-1) ((ln:Int) - 1) _).mono ?_
     rw [H1.out]
     rintro _ w' ⟨rfl,rfl⟩
     go_wp2_with fail
     refine (aM (F:Int) (-1) ((sn:Int) - 1) _).mono ?_
     rw [H2.out]
     rintro _ w' ⟨rfl,rfl⟩
     go_wp2_with fail
     go_ret
     exact ⟨dU I.out,u.out⟩
    have bk:(s.kind != 0)=true:=by simp;exact hk
    have I:Hid (¬dG l ⟨a,(F:Int)⟩):=fun h=>hk ((B.1 h).2.2.2.1 (by omega))
    clear B hk
    rcases av with da|⟨da,_⟩
    ·clear ah
     go_enter Tryz.func257,Tryz.ntmps257
     go_upto_region 1 with fail
     generalize (w.alloc (.cells (ai l (some ⟨bs,os,none⟩) LA OA sn sc ln lc on oc) 41)).alloc (.cells #[.int .i64 a,.int .i64 (F:Int)] 94)=D at *
     obtain ⟨-,Y,J⟩:=cs3 j.out
     obtain ⟨y0,Z⟩:=cs2 g.out
     have Q:=aC j.out
     have V:=aC g.out
     go_wp2_with fail
     refine (aM a (-1) ((ln:Int) - 1) _).mono ?_
     rw [H1.out]
     rintro _ w' ⟨rfl,rfl⟩
     go_wp2_with fail
     refine (aM (F:Int) (-1) ((sn:Int) - 1) _).mono ?_
     rw [H2.out]
     rintro _ w' ⟨rfl,rfl⟩
     go_wp2_with fail
     go_ret
     exact ⟨aO I.out,u.out⟩
    clear ah
    go_enter Tryz.func257,Tryz.ntmps257
    go_upto_region 1 with fail
    generalize (w.alloc (.cells (ai l (some ⟨bs,os,none⟩) LA OA sn sc ln lc on oc) 41)).alloc (.cells #[.int .i64 a,.int .i64 (F:Int)] 94)=D at *
    obtain ⟨-,Y,J⟩:=cs3 j.out
    obtain ⟨y0,Z⟩:=cs2 g.out
    have Q:=aC j.out
    have V:=aC g.out
    go_wp2_with fail
    refine (aM a (-1) ((ln:Int) - 1) _).mono ?_
    rw [H1.out]
    rintro _ w' ⟨rfl,rfl⟩
    go_wp2_with fail
    refine (aM (F:Int) (-1) ((sn:Int) - 1) _).mono ?_
    rw [H2.out]
    rintro _ w' ⟨rfl,rfl⟩
    go_wp2_with fail
    go_ret
    exact ⟨aO I.out,u.out⟩
   have d1:decide (b≥0)=false:=decide_eq_false aT
   obtain rfl:b=-1:=by omega
   have da:(a==-1)=false:=by simp;omega
   have I:Hid (dG l ⟨a,-1⟩):=B.2 ⟨⟨by omega,by omega⟩,⟨by omega,by omega⟩,hn,fun h=>by omega,fun _ h=>by omega⟩
   have d2:decide (a≥0)=true:=decide_eq_true (by omega)
   clear B hn aT av ah
   go_enter Tryz.func257,Tryz.ntmps257
   go_upto_region 1 with fail
   generalize (w.alloc (.cells (ai l SA LA OA sn sc ln lc on oc) 41)).alloc (.cells #[.int .i64 a,.int .i64 (-1)] 94)=D at *
   obtain ⟨-,Y,J⟩:=cs3 j.out
   obtain ⟨y0,Z⟩:=cs2 g.out
   have Q:=aC j.out
   have V:=aC g.out
   go_wp2_with fail
   refine (aM a (-1) ((ln:Int) - 1) _).mono ?_
   rw [H1.out]
   rintro _ w' ⟨rfl,rfl⟩
   go_wp2_with fail
   refine (aM (-1) (-1) ((sn:Int) - 1) _).mono ?_
   rw [H2.out]
   rintro _ w' ⟨rfl,rfl⟩
   go_wp2_with fail
   go_ret
   exact ⟨dU I.out,u.out⟩
theorem oZ {l:ag} {it:Int} {es:List LeT}:dY l ⟨0,it,es⟩↔0<=it/\it<l.inputs:=by simp [dY]
theorem og {l:ag} {it:Int} {es:List LeT}:dY l ⟨1,it,es⟩↔0<=it/\it<(l.outs.length:Int):=by simp [dY]
theorem jW {l:ag} {it:Int} {es:List LeT}:dY l ⟨2,it,es⟩↔0<=it/\it<(l.seqs.length:Int):=by simp [dY]
theorem kJ {l:ag} {it:Int} {es:List LeT}:dY l ⟨3,it,es⟩↔∀e∈es,dG l e:=by simp [dY]
theorem iL {l:ag} {kd it:Int} {es:List LeT} (h:dY l ⟨kd,it,es⟩):kd=0∨kd=1∨kd=2∨kd=3:=by
 rcases h with h|h|h|h
 ·exact .inl h.1
 ·exact .inr (.inl h.1)
 ·exact .inr (.inr (.inl h.1))
 exact .inr (.inr (.inr h.1))
theorem yR (l : ag) (SA LA OA : Option Addr) (sn sc ln lc on oc : Nat) (a b : Int) (w : World) (h : fU w l SA LA OA sn sc ln lc on oc) (hf : az l) (he : dG l ⟨a, b⟩) :
    Calls Tryz.prog 214 #[jE l SA LA OA sn sc ln lc on oc, .agg #[.int .i64 a, .int .i64 b]] w fun e w' => ∃ A n c, e = .returned (.slice A n c) /\ Own w.heap.size w' A n c (iB l ⟨a, b⟩) /\ Below w.heap.size w w' := by
  have j : iB l ⟨a, b⟩ = asc ((if 0 <= a then (l.luts[a.toNat]?.getD Lt.zero).ins else (l.seqs[b.toNat]?.getD Sq.zero).ins).filter fun x => decide (x ≠ 0)) := rfl
  obtain ⟨e1, e2, e3, _⟩ := nI.1 he
  have B := (qc hf he).1
  change (if 0 <= a then (l.luts[a.toNat]?.getD Lt.zero).ins else (l.seqs[b.toNat]?.getD Sq.zero).ins).length <= 4 at B
  have G := Hd (aB (aB (Below.refl w.heap.size w) (.cells (ai l SA LA OA sn sc ln lc on oc) 41)) (.cells #[.int .i64 a, .int .i64 b] 94))
  have q := aW (.cells #[.int .i64 a, .int .i64 b] 94) (aI w (.cells (ai l SA LA OA sn sc ln lc on oc) 41))
  have hy := aI (w.alloc (.cells (ai l SA LA OA sn sc ln lc on oc) 41)) (.cells #[.int .i64 a, .int .i64 b] 94)
  simp only [World.size_alloc] at hy
  have af := Hd q
  have K := Hd hy
  clear q hy
  obtain ⟨ak, ah, z⟩ := h.lens
  have aL := hf.nseq
  have aT := hf.nlut
  have aJ := hf.nout
  have a5 := hf.inp
  rw [ak] at aL
  rw [ah] at aT
  rw [z] at aJ
  have HN := Hd h
  have HF := Hd hf
  have aD := Hd ak
  have av := Hd ah
  have a3 := Hd z
  have aZ : Hid ((l.first : Int) = 1 + l.inputs + (sn : Int)) := by show _ = _; unfold ag.first; omega
  have a2 : Hid ((l.count : Int) = 1 + l.inputs + (sn : Int) + (ln : Int)) := by show _ = _; unfold ag.count ag.first; omega
  clear h hf ak ah z
  by_cases h0 : 0 <= a
  · have d0 : decide (a ≥ 0) = true := decide_eq_true h0
    rw [if_pos h0] at j B
    obtain ⟨X, rfl⟩ : ∃ X : Nat, a = (X : Int) := ⟨a.toNat, by omega⟩
    rw [Int.toNat_natCast] at j B
    have hX : X < ln := by have := av.out; omega
    obtain ⟨bb, ob, S, m, p, rfl, I, c0, c1, r2⟩ := HN.out.lt.lut' (k := X) (by rw [av.out]; exact hX)
    have aP := aK G.out I
    rw [← G.out.cell (p := ⟨bb, ob + X * 2, none⟩) I] at c0
    have u := Hd r2.ints
    rw [r2.ints.1] at B
    have am := Hd j
    clear c1 r2 j e1 e2 e3 he
    generalize (l.luts[X]?.getD Lt.zero).ins = src at *
    go_enter Tryz.func214, Tryz.ntmps214
    go_upto_region 1 with fail
    generalize (w.alloc (.cells (ai l SA (some ⟨bb, ob, none⟩) OA sn sc ln lc on oc) 41)).alloc (.cells #[.int .i64 (X : Int), .int .i64 b] 94) = W9 at *
    have x2 := aF (k := 2) af.out rfl
    have y0 := aF (k := 0) K.out rfl
    have lx := aC af.out
    have ly := aC K.out
    go_wp2_with fail
    clear x2 y0 lx ly c0
    go_loopw [6, 28] (fun v i wr => ∃ (k : Nat) (V : Option Addr) (H J : Nat), k <= m /\ i = .int .i64 k /\ v = .slice V H J /\ Own w.heap.size wr V H J (asc ((src.take k).filter fun x => decide (x ≠ 0))) /\ Below w.heap.size w wr) (fun _ i _ => m - (intOf i).toNat)
    case atStart => exact ⟨0, _, _, _, Nat.zero_le _, rfl, rfl, Own.nil, G.out⟩
    obtain ⟨k, V, H, J, hk, rfl, rfl, ho, hb⟩ := hrel
    have HO := Hd ho
    have g := Hd hb
    have z := ho.len
    clear ho hb
    by_cases Z : k < m
    · have aq : decide ((k : Int) < (m : Int)) = true := by simp; omega
      obtain ⟨bs, os, rfl, R, Y⟩ := u.out.2 (by omega)
      have al := (g.out.cell (p := ⟨bs, os + k, none⟩) R).trans (Y k Z)
      have ap := aK g.out R
      have W : k < src.length := by rw [u.out.1]; exact Z
      have hg := mI (fun x => decide (x ≠ 0)) (src.take k) (src[k]?.getD 0)
      rw [← bU W] at hg
      have HG := Hd hg
      have aj := jQ ((src.take k).filter fun x => decide (x ≠ 0))
      have U := List.length_filter_le (fun x => decide (x ≠ 0)) (src.take k)
      rw [List.length_take] at U
      have aM : H <= 4 := by omega
      clear hg Y aj U z W
      generalize asc ((src.take k).filter fun x => decide (x ≠ 0)) = ys at *
      generalize src[k]?.getD 0 = x at *
      have i0 : (0 : Int) <= (k : Int) := by omega
      have i1 : (k : Int) < (m : Int) := by omega
      by_cases q : x = 0
      · have D : Hid (asc ((src.take (k + 1)).filter fun x => decide (x ≠ 0)) = ys) := by show _ = _; rw [HG.out, q]; rfl
        have dx : (x != 0) = false := by simp [q]
        clear HG q
        go_wp2_with fail
        go_roundw
        case rel => exact ⟨k + 1, _, _, _, by omega, by go_num, rfl, by rw [D.out]; exact HO.out, g.out⟩
        case measure => simp [intOf]; omega
      have D : Hid (asc ((src.take (k + 1)).filter fun x => decide (x ≠ 0)) = ins ys x) := by show _ = _; rw [HG.out]; simp [q]
      have dx : (x != 0) = true := by simp [q]
      clear HG q
      go_wp2_with fail
      refine (jR w.heap.size V H J ys x _ HO.out g.out.size (by omega)).mono ?_
      rintro _ w1 ⟨A2, n2, c2, rfl, o2, b2⟩
      have au := Hd o2
      have ar := Hd (aA g.out b2)
      clear o2 b2 al ap
      go_wp2_with fail
      go_roundw
      case rel => exact ⟨k + 1, _, _, _, by omega, by go_num, rfl, by rw [D.out]; exact au.out, ar.out⟩
      case measure => simp [intOf]; omega
    have Q : k = m := by omega
    have aq : decide ((k : Int) < (m : Int)) = false := by simp; omega
    have HD : Hid (Own w.heap.size wr V H J (asc (src.filter fun x => decide (x ≠ 0)))) := by
      have h := HO.out
      rwa [Q, List.take_of_length_le (by rw [u.out.1]; exact Nat.le_refl _)] at h
    clear HO Q
    go_wp2_with fail
    go_ret
    exact ⟨_, _, _, rfl, by rw [am.out]; exact HD.out, g.out⟩
  have d0 : decide (a ≥ 0) = false := decide_eq_false h0
  rw [if_neg h0] at j B
  obtain ⟨X, rfl⟩ : ∃ X : Nat, b = (X : Int) := ⟨b.toNat, by omega⟩
  rw [Int.toNat_natCast] at j B
  have hX : X < sn := by have := aD.out; omega
  obtain ⟨bb, ob, S, m, p, rfl, I, c0, c1, c2, r2⟩ := HN.out.sq.sq' (k := X) (by rw [aD.out]; exact hX)
  have aP := aK G.out I
  rw [← G.out.cell (p := ⟨bb, ob + X * 3 + 2, none⟩) I] at c2
  have u := Hd r2.ints
  rw [r2.ints.1] at B
  have am := Hd j
  clear c0 c1 r2 j e1 e2 e3 he
  generalize (l.seqs[X]?.getD Sq.zero).ins = src at *
  go_enter Tryz.func214, Tryz.ntmps214
  go_upto_region 1 with fail
  generalize (w.alloc (.cells (ai l (some ⟨bb, ob, none⟩) LA OA sn sc ln lc on oc) 41)).alloc (.cells #[.int .i64 a, .int .i64 (X : Int)] 94) = W9 at *
  have x1 := aF (k := 1) af.out rfl
  have y0 := aF (k := 0) K.out rfl
  have y1 := aF (k := 1) K.out rfl
  have lx := aC af.out
  have ly := aC K.out
  go_wp2_with fail
  clear x1 y0 y1 lx ly c2
  go_loopw [6, 28] (fun v i wr => ∃ (k : Nat) (V : Option Addr) (H J : Nat), k <= m /\ i = .int .i64 k /\ v = .slice V H J /\ Own w.heap.size wr V H J (asc ((src.take k).filter fun x => decide (x ≠ 0))) /\ Below w.heap.size w wr) (fun _ i _ => m - (intOf i).toNat)
  case atStart => exact ⟨0, _, _, _, Nat.zero_le _, rfl, rfl, Own.nil, G.out⟩
  obtain ⟨k, V, H, J, hk, rfl, rfl, ho, hb⟩ := hrel
  have HO := Hd ho
  have g := Hd hb
  have z := ho.len
  clear ho hb
  by_cases Z : k < m
  · have aq : decide ((k : Int) < (m : Int)) = true := by simp; omega
    obtain ⟨bs, os, rfl, R, Y⟩ := u.out.2 (by omega)
    have al := (g.out.cell (p := ⟨bs, os + k, none⟩) R).trans (Y k Z)
    have ap := aK g.out R
    have W : k < src.length := by rw [u.out.1]; exact Z
    have hg := mI (fun x => decide (x ≠ 0)) (src.take k) (src[k]?.getD 0)
    rw [← bU W] at hg
    have HG := Hd hg
    have aj := jQ ((src.take k).filter fun x => decide (x ≠ 0))
    have U := List.length_filter_le (fun x => decide (x ≠ 0)) (src.take k)
    rw [List.length_take] at U
    have aM : H <= 4 := by omega
    clear hg Y aj U z W
    generalize asc ((src.take k).filter fun x => decide (x ≠ 0)) = ys at *
    generalize src[k]?.getD 0 = x at *
    have i0 : (0 : Int) <= (k : Int) := by omega
    have i1 : (k : Int) < (m : Int) := by omega
    by_cases q : x = 0
    · have D : Hid (asc ((src.take (k + 1)).filter fun x => decide (x ≠ 0)) = ys) := by show _ = _; rw [HG.out, q]; rfl
      have dx : (x != 0) = false := by simp [q]
      clear HG q
      go_wp2_with fail
      go_roundw
      case rel => exact ⟨k + 1, _, _, _, by omega, by go_num, rfl, by rw [D.out]; exact HO.out, g.out⟩
      case measure => simp [intOf]; omega
    have D : Hid (asc ((src.take (k + 1)).filter fun x => decide (x ≠ 0)) = ins ys x) := by show _ = _; rw [HG.out]; simp [q]
    have dx : (x != 0) = true := by simp [q]
    clear HG q
    go_wp2_with fail
    refine (jR w.heap.size V H J ys x _ HO.out g.out.size (by omega)).mono ?_
    rintro _ w1 ⟨A2, n2, c2, rfl, o2, b2⟩
    have au := Hd o2
    have ar := Hd (aA g.out b2)
    clear o2 b2 al ap
    go_wp2_with fail
    go_roundw
    case rel => exact ⟨k + 1, _, _, _, by omega, by go_num, rfl, by rw [D.out]; exact au.out, ar.out⟩
    case measure => simp [intOf]; omega
  have Q : k = m := by omega
  have aq : decide ((k : Int) < (m : Int)) = false := by simp; omega
  have HD : Hid (Own w.heap.size wr V H J (asc (src.filter fun x => decide (x ≠ 0)))) := by
    have h := HO.out
    rwa [Q, List.take_of_length_le (by rw [u.out.1]; exact Nat.le_refl _)] at h
  clear HO Q
  go_wp2_with fail
  go_ret
  exact ⟨_, _, _, rfl, by rw [am.out]; exact HD.out, g.out⟩
theorem yS (l:ag) (SA LA OA:Option Addr) (sn sc ln lc on oc:Nat) (kd it:Int) (es:List LeT) (H:Option Addr) (q D:Nat) (w:World) (h:fU w l SA LA OA sn sc ln lc on oc) (hf:az l) (hE:RdC w w.heap.size (cZ es) (.slice H q D)) (hK:dY l ⟨kd,it,es⟩) (bj:q<=1048576) :
  Calls Tryz.prog 126 #[jE l SA LA OA sn sc ln lc on oc,.agg #[.int .i64 kd,.int .i64 it,.slice H q D]] w fun e w'=>∃A n c,e = .returned (.slice A n c)/\Own w.heap.size w' A n c (kD l ⟨kd,it,es⟩)/\Below w.heap.size w w':=by
 have aN:=hE.esN
 obtain ⟨HE,ad⟩:=hd2 hE aN
 clear hE
 have j:=Hd (aB (aB (Below.refl w.heap.size w) (.cells (ai l SA LA OA sn sc ln lc on oc) 41)) (.cells #[.int .i64 kd,.int .i64 it,.slice H q D] 89))
 have hx:=aW (.cells #[.int .i64 kd,.int .i64 it,.slice H q D] 89) (aI w (.cells (ai l SA LA OA sn sc ln lc on oc) 41))
 have hy:=aI (w.alloc (.cells (ai l SA LA OA sn sc ln lc on oc) 41)) (.cells #[.int .i64 kd,.int .i64 it,.slice H q D] 89)
 simp only [World.size_alloc] at hy
 obtain ⟨g,u⟩:=hd2 hx hy
 clear hx hy
 obtain ⟨Q,J,R⟩:=h.lens
 have av:=hf.nseq
 have aR:=hf.nlut
 have ar:=hf.nout
 have bg:=hf.inp
 rw [Q] at av
 rw [J] at aR
 rw [R] at ar
 obtain ⟨HN,HF,aM,a5,bf⟩:=hd5 h hf Q J R
 have a6:Hid ((l.first:Int)=1+l.inputs+(sn:Int)):=by show _=_;unfold ag.first;omega
 have bc:Hid ((l.count:Int)=1+l.inputs+(sn:Int)+(ln:Int)):=by show _=_;unfold ag.count ag.first;omega
 clear h hf Q J R
 by_cases k0:kd=0
 ·subst k0
  have K:Hid (kD l ⟨0,it,es⟩=[1+it]):=rfl
  have aG:0<=it/\it<l.inputs:=oZ.1 hK
  go_enter Tryz.func126,Tryz.ntmps126
  go_upto_region 1 with fail
  generalize (w.alloc (.cells (ai l SA LA OA sn sc ln lc on oc) 41)).alloc (.cells #[.int .i64 0,.int .i64 it,.slice H q D] 89)=I at *
  have V:=aF (k:=0) g.out rfl
  obtain ⟨y0,y1⟩:=cs2 u.out
  have W:=aC g.out
  have ly:=aC u.out
  go_wp2_with fail
  go_ret
  refine ⟨_,_,_,rfl,?_,aA j.out (aB (Below.refl _ _) _)⟩
  rw [K.out]
  exact Own.made (cur:=#[.int .i64 (1+it)]) (aI I _) j.out.size (by unfold maxLen;omega) rfl rfl
 by_cases k1:kd=1
 ·subst k1
  have K:Hid (kD l ⟨1,it,es⟩=[]):=rfl
  go_enter Tryz.func126,Tryz.ntmps126
  go_upto_region 1 with fail
  generalize (w.alloc (.cells (ai l SA LA OA sn sc ln lc on oc) 41)).alloc (.cells #[.int .i64 1,.int .i64 it,.slice H q D] 89)=I at *
  have V:=aF (k:=0) g.out rfl
  obtain ⟨y0,y1⟩:=cs2 u.out
  have W:=aC g.out
  have ly:=aC u.out
  go_wp2_with fail
  go_ret
  exact ⟨_,_,_,rfl,by rw [K.out];exact Own.nil,j.out⟩
 by_cases k2:kd=2
 ·subst k2
  have K:Hid (kD l ⟨2,it,es⟩=[1+l.inputs+it]):=rfl
  have aG:0<=it/\it<(sn:Int):=by rw [←aM.out];exact jW.1 hK
  go_enter Tryz.func126,Tryz.ntmps126
  go_upto_region 1 with fail
  generalize (w.alloc (.cells (ai l SA LA OA sn sc ln lc on oc) 41)).alloc (.cells #[.int .i64 2,.int .i64 it,.slice H q D] 89)=I at *
  have V:=aF (k:=0) g.out rfl
  obtain ⟨y0,y1⟩:=cs2 u.out
  have W:=aC g.out
  have ly:=aC u.out
  go_wp2_with fail
  go_ret
  refine ⟨_,_,_,rfl,?_,aA j.out (aB (Below.refl _ _) _)⟩
  rw [K.out]
  exact Own.made (cur:=#[.int .i64 (1+l.inputs+it)]) (aI I _) j.out.size (by unfold maxLen;omega) rfl rfl
 have k3:kd=3:=by have:=iL hK;omega
 subst k3
 clear k0 k1 k2
 have K:Hid (kD l ⟨3,it,es⟩=es.map (dA l)):=rfl
 have au:Hid (∀e∈es,dG l e):=kJ.1 hK
 clear hK
 have aw:=g
 go_enter Tryz.func126,Tryz.ntmps126
 go_upto_region 1 with fail
 generalize (w.alloc (.cells (ai l SA LA OA sn sc ln lc on oc) 41)).alloc (.cells #[.int .i64 3,.int .i64 it,.slice H q D] 89)=I at *
 have V:=aF (k:=0) g.out rfl
 obtain ⟨y0,y1,y2⟩:=cs3 u.out
 have W:=aC g.out
 have ly:=aC u.out
 go_wp2_with fail
 clear V y0 y1 y2 W ly
 go_loopw [5,30] (fun v i wr=>∃(k:Nat) (A':Option Addr) (Z:Nat),k<=q/\i = .int .i64 k/\v = .slice A' k Z/\aJ I wr [.cel (aH ((es.take k).map (dA l))) (.slice A' k Z)]) (fun _ i _=>q - (intOf i).toNat)
 ·exact ⟨0,none,0,Nat.zero_le _,rfl,rfl,(aJ.refl I).pushNil 3 1⟩
 obtain ⟨k,A',Z,hk,rfl,rfl,hs⟩:=hrel
 have HS:=Hd hs
 clear hs
 by_cases aQ:k<q
 ·have aO:=dT (by omega:k<q)
  have B:k<es.length:=by rw [ad.out];exact aQ
  obtain ⟨be,oe,rfl,U,c0,c1⟩:=HE.out.es (k:=k) B
  have G:=aA j.out HS.out.bel
  have bn:=aK G U
  rw [←G.cell (p:=⟨be,oe+k * 2,none⟩) U] at c0
  rw [←G.cell (p:=⟨be,oe+k * 2+1,none⟩) U] at c1
  clear G
  have aj:=Hd (au.out _ (List.getElem_mem B))
  have aP:Hid ((es.take (k+1)).map (dA l)=(es.take k).map (dA l)++[dA l ⟨(es[k]?.getD LeT.zero).lut,(es[k]?.getD LeT.zero).ff⟩]):=by show _=_;rw [bU (z:=LeT.zero) B,List.map_append];rfl
  rw [show es[k]=es[k]?.getD LeT.zero by rw [List.getElem?_eq_getElem B];rfl] at aj
  clear B
  generalize es[k]?.getD LeT.zero=e at *
  have hx:=aD (aB (Below.refl wr.heap.size wr) (.cells #[.int .i64 e.lut,.int .i64 e.ff] 94)) (aD HS.out.bel aw.out)
  obtain ⟨V,x1,x2,x3,W⟩:=cO hx
  have hq:=aI wr (.cells #[.int .i64 e.lut,.int .i64 e.ff] 94)
  obtain ⟨q0,q1,lq⟩:=jv hq
  obtain ⟨i0,i1⟩:=ib (by omega:k<q)
  have af:=Hd (HS.out.alloc (.cells #[.int .i64 e.lut,.int .i64 e.ff] 94))
  clear hx hq
  go_wp2_with fail
  refine (qK l SA LA OA sn sc ln lc on oc e.lut e.ff _ (HN.out.below (aA j.out af.out.bel)) HF.out aj.out).mono ?_
  rintro _ w1 ⟨rfl,b1⟩
  have aL:=Hd (af.out.below b1)
  clear b1 V x1 x2 x3 W q0 q1 lq c0 c1
  generalize dA l ⟨e.lut,e.ff⟩=Y at *
  go_wp2_with (at_builtin;refine gF rfl _ _ rfl _ (aL.out.alloc _) 0 A' k Z ((es.take k).map (dA l)) Y _ (0,0) rfl rfl rfl (aI _ _) (by omega) ?_;intro g9 bl w9 S9 ax;have aE:=Hd S9;clear S9 ax)
  go_roundw
  ·exact ⟨k+1,_,_,by omega,by go_num,rfl,by rw [aP.out];exact aE.out⟩
  simp [intOf];omega
 have ah:k=q:=by omega
 have aO:=dF (by omega:q<=k)
 have HD:Hid (aJ I wr [.cel (aH (es.map (dA l))) (.slice A' q Z)]):=by
  have h:=HS.out
  rwa [ah,List.take_of_length_le (by rw [ad.out];exact Nat.le_refl _)] at h
 subst ah
 clear HS
 go_wp2_with fail
 go_ret
 exact ⟨_,_,_,rfl,by rw [K.out];exact (HD.out.owned 0 rfl).more j.out.size,aA j.out HD.out.bel⟩
theorem mX (l : ag) (SA LA OA : Option Addr) (sn sc ln lc on oc : Nat) (kd it : Int) (es : List LeT) (EA : Option Addr) (q ec : Nat) (w : World) (h : fU w l SA LA OA sn sc ln lc on oc) (hf : az l) (hE : RdC w w.heap.size (cZ es) (.slice EA q ec)) (hK : dY l ⟨kd, it, es⟩) (cq : q <= 100000) :
    Calls Tryz.prog 125 #[jE l SA LA OA sn sc ln lc on oc, .agg #[.int .i64 kd, .int .i64 it, .slice EA q ec]] w fun e w' => ∃ A n c, e = .returned (.slice A n c) /\ Own w.heap.size w' A n c (jA l ⟨kd, it, es⟩) /\ Below w.heap.size w w' := by
  have bN := hE.esN
  have HE := Hd hE
  have ad := Hd bN
  clear hE
  have u := Hd (aB (aB (Below.refl w.heap.size w) (.cells (ai l SA LA OA sn sc ln lc on oc) 41)) (.cells #[.int .i64 kd, .int .i64 it, .slice EA q ec] 89))
  have D := aW (.cells #[.int .i64 kd, .int .i64 it, .slice EA q ec] 89) (aI w (.cells (ai l SA LA OA sn sc ln lc on oc) 41))
  have hy := aI (w.alloc (.cells (ai l SA LA OA sn sc ln lc on oc) 41)) (.cells #[.int .i64 kd, .int .i64 it, .slice EA q ec] 89)
  simp only [World.size_alloc] at hy
  have G := Hd D
  have g := Hd hy
  clear D hy
  obtain ⟨au, ar, V⟩ := h.lens
  have bv := hf.nseq
  have bX := hf.nlut
  have bq := hf.nout
  have cm := hf.inp
  rw [au] at bv
  rw [ar] at bX
  rw [V] at bq
  have HN := Hd h
  have HF := Hd hf
  have aL := Hd au
  have ce := Hd ar
  have bI := Hd V
  have cf : Hid ((l.first : Int) = 1 + l.inputs + (sn : Int)) := by show _ = _; unfold ag.first; omega
  have cj : Hid ((l.count : Int) = 1 + l.inputs + (sn : Int) + (ln : Int)) := by show _ = _; unfold ag.count ag.first; omega
  clear h hf au ar V
  by_cases k0 : kd = 0
  · subst k0
    have Z : Hid (jA l ⟨0, it, es⟩ = []) := rfl
    go_enter Tryz.func125, Tryz.ntmps125
    go_upto_region 1 with fail
    generalize (w.alloc (.cells (ai l SA LA OA sn sc ln lc on oc) 41)).alloc (.cells #[.int .i64 0, .int .i64 it, .slice EA q ec] 89) = W9 at *
    have x0 := aF (k := 0) G.out rfl
    have y0 := aF (k := 0) g.out rfl
    have y1 := aF (k := 1) g.out rfl
    have lx := aC G.out
    have ly := aC g.out
    go_wp2_with fail
    go_ret
    exact ⟨_, _, _, rfl, by rw [Z.out]; exact Own.nil, u.out⟩
  by_cases k1 : kd = 1
  · subst k1
    have Z : Hid (jA l ⟨1, it, es⟩ = [l.outs[it.toNat]?.getD 0]) := rfl
    have aE := og.1 hK
    rw [bI.out] at aE
    obtain ⟨X, rfl⟩ : ∃ X : Nat, it = (X : Int) := ⟨it.toNat, by omega⟩
    rw [Int.toNat_natCast] at Z
    have hX : X < on := by omega
    obtain ⟨bo, oo, rfl, aU, a6⟩ := HN.out.ou.ints.2 (by omega)
    have co := a6 X hX
    have cn := aK u.out aU
    rw [← u.out.cell (p := ⟨bo, oo + X, none⟩) aU] at co
    clear a6 hK
    generalize l.outs[X]?.getD 0 = y at *
    go_enter Tryz.func125, Tryz.ntmps125
    go_upto_region 1 with fail
    generalize (w.alloc (.cells (ai l SA LA (some ⟨bo, oo, none⟩) sn sc ln lc on oc) 41)).alloc (.cells #[.int .i64 1, .int .i64 (X : Int), .slice EA q ec] 89) = W9 at *
    have x3 := aF (k := 3) G.out rfl
    have y0 := aF (k := 0) g.out rfl
    have y1 := aF (k := 1) g.out rfl
    have lx := aC G.out
    have ly := aC g.out
    go_wp2_with fail
    go_ret
    refine ⟨_, _, _, rfl, ?_, aA u.out (aB (Below.refl _ _) _)⟩
    rw [Z.out]
    exact Own.made (cur := #[.int .i64 (y)]) (aI W9 _) u.out.size (by unfold maxLen; omega) rfl rfl
  by_cases k2 : kd = 2
  · subst k2
    have Z : Hid (jA l ⟨2, it, es⟩ = (l.seqs[it.toNat]?.getD Sq.zero).ins) := rfl
    have aE := jW.1 hK
    rw [aL.out] at aE
    obtain ⟨X, rfl⟩ : ∃ X : Nat, it = (X : Int) := ⟨it.toNat, by omega⟩
    rw [Int.toNat_natCast] at Z
    have hX : X < sn := by omega
    obtain ⟨bb, ob, S, m, p, rfl, aV, c0, c1, c2, r2⟩ := HN.out.sq.sq' (k := X) (by rw [aL.out]; exact hX)
    have cl := aK u.out aV
    rw [← u.out.cell (p := ⟨bb, ob + X * 3 + 2, none⟩) aV] at c2
    have bQ : m <= 4 := by
      have h1 := (HF.out.seqs X (by rw [aL.out]; exact hX)).1
      have h2 := r2.ints.1
      rcases h1 with h | h <;> omega
    have bw := Hd r2.ints
    clear c0 c1 r2 hK
    generalize (l.seqs[X]?.getD Sq.zero).ins = src at *
    go_enter Tryz.func125, Tryz.ntmps125
    go_upto_region 1 with fail
    generalize (w.alloc (.cells (ai l (some ⟨bb, ob, none⟩) LA OA sn sc ln lc on oc) 41)).alloc (.cells #[.int .i64 2, .int .i64 (X : Int), .slice EA q ec] 89) = W9 at *
    have x1 := aF (k := 1) G.out rfl
    have y0 := aF (k := 0) g.out rfl
    have y1 := aF (k := 1) g.out rfl
    have lx := aC G.out
    have ly := aC g.out
    go_wp2_with fail
    refine (yH S m p src _ (bw.out.below u.out) (by omega)).mono ?_
    rintro _ w1 ⟨A1, c1, rfl, o1, b1⟩
    have aw := Hd (o1.more u.out.size)
    have U := Hd (aA u.out b1)
    clear o1 b1
    go_wp2_with fail
    go_ret
    exact ⟨_, _, _, rfl, by rw [Z.out]; exact aw.out, U.out⟩
  have k3 : kd = 3 := by have := iL hK; omega
  subst k3
  clear k0 k1 k2
  have Z : Hid (jA l ⟨3, it, es⟩ = fD l es) := rfl
  have av : Hid (∀ e ∈ es, dG l e) := kJ.1 hK
  clear hK
  have bB := G
  go_enter Tryz.func125, Tryz.ntmps125
  go_upto_region 1 with fail
  generalize (w.alloc (.cells (ai l SA LA OA sn sc ln lc on oc) 41)).alloc (.cells #[.int .i64 3, .int .i64 it, .slice EA q ec] 89) = W9 at *
  have x0 := aF (k := 0) G.out rfl
  have y0 := aF (k := 0) g.out rfl
  have y1 := aF (k := 1) g.out rfl
  have y2 := aF (k := 2) g.out rfl
  have lx := aC G.out
  have ly := aC g.out
  go_wp2_with fail
  clear x0 y0 y1 y2 lx ly
  go_loopw [5, 39] (fun v i wr => ∃ (k : Nat) (I : Option Addr) (H : Nat), k <= q /\ i = .int .i64 k /\ v = .slice I k H /\ aJ W9 wr [.cel (aH ((es.take k).map (dA l))) (.slice I k H)]) (fun _ i _ => q - (intOf i).toNat)
  case atStart => exact ⟨0, none, 0, Nat.zero_le _, rfl, rfl, (aJ.refl W9).pushNil 3 1⟩
  obtain ⟨k, I, H, hk, rfl, rfl, hs⟩ := hrel
  have HS := Hd hs
  clear hs
  by_cases aQ : k < q
  · have aM : decide ((k : Int) < (q : Int)) = true := by simp; omega
    have B : k < es.length := by rw [ad.out]; exact aQ
    obtain ⟨be, oe, rfl, J, c0, c1⟩ := HE.out.es (k := k) B
    have ah := aA u.out HS.out.bel
    have bW := aK ah J
    rw [← ah.cell (p := ⟨be, oe + k * 2, none⟩) J] at c0
    rw [← ah.cell (p := ⟨be, oe + k * 2 + 1, none⟩) J] at c1
    clear ah
    have Q := Hd (av.out _ (List.getElem_mem B))
    have aN : Hid ((es.take (k + 1)).map (dA l) = (es.take k).map (dA l) ++ [dA l ⟨(es[k]?.getD LeT.zero).lut, (es[k]?.getD LeT.zero).ff⟩]) := by show _ = _; rw [bU (z := LeT.zero) B, List.map_append]; rfl
    rw [show es[k] = es[k]?.getD LeT.zero by rw [List.getElem?_eq_getElem B]; rfl] at Q
    clear B
    generalize es[k]?.getD LeT.zero = e at *
    have D := aD (aB (Below.refl wr.heap.size wr) (.cells #[.int .i64 e.lut, .int .i64 e.ff] 94)) (aD HS.out.bel bB.out)
    have x0 := aF (k := 0) D rfl
    have x1 := aF (k := 1) D rfl
    have x2 := aF (k := 2) D rfl
    have x3 := aF (k := 3) D rfl
    have lx := aC D
    have hq := aI wr (.cells #[.int .i64 e.lut, .int .i64 e.ff] 94)
    have q0 := aF (k := 0) hq rfl
    have q1 := aF (k := 1) hq rfl
    have lq := aC hq
    have i0 : (0 : Int) <= (k : Int) := by omega
    have i1 : (k : Int) < (q : Int) := by omega
    have a1 := Hd (HS.out.alloc (.cells #[.int .i64 e.lut, .int .i64 e.ff] 94))
    clear D hq
    go_wp2_with fail
    refine (qK l SA LA OA sn sc ln lc on oc e.lut e.ff _ (HN.out.below (aA u.out a1.out.bel)) HF.out Q.out).mono ?_
    rintro _ w1 ⟨rfl, b1⟩
    have bL := Hd (a1.out.below b1)
    clear b1 x0 x1 x2 x3 lx q0 q1 lq c0 c1
    generalize dA l ⟨e.lut, e.ff⟩ = Y at *
    go_wp2_with (at_builtin; refine gF rfl _ _ rfl _ (bL.out.alloc _) 0 I k H ((es.take k).map (dA l)) Y _ (0, 0) rfl rfl rfl (aI _ _) (by omega) ?_; intro g9 cr w9 S9 bE; have bJ := Hd S9; clear S9 bE)
    go_roundw
    case rel => exact ⟨k + 1, _, _, by omega, by go_num, rfl, by rw [aN.out]; exact bJ.out⟩
    case measure => simp [intOf]; omega
  have R : k = q := by omega
  have aM : decide ((k : Int) < (q : Int)) = false := by simp; omega
  have W : Hid (aJ W9 wr [.cel (aH (es.map (dA l))) (.slice I q H)]) := by
    have h := HS.out
    rwa [R, List.take_of_length_le (by rw [ad.out]; exact Nat.le_refl _)] at h
  subst R
  clear HS
  have bD := Hd W.out.bel
  have ax := Hd (aA u.out W.out.bel)
  have bO := Hd (W.out.ints 0 rfl)
  have y2 := aF (k := 2) (aD W.out.bel g.out) rfl
  have ly := aC (aD W.out.bel g.out)
  clear W
  obtain ⟨wo, rfl⟩ : ∃ y, y = wr := ⟨wr, rfl⟩
  obtain ⟨OB, rfl⟩ : ∃ x, x = I := ⟨I, rfl⟩
  obtain ⟨bC, rfl⟩ : ∃ x, x = H := ⟨H, rfl⟩
  obtain ⟨q, rfl⟩ : ∃ x, x = k := ⟨k, rfl⟩
  go_wp2_with fail
  clear y2 ly
  go_loopw [6, 53] (fun v i wr => ∃ (k : Nat) (I : Option Addr) (n' H : Nat), k <= q /\ i = .int .i64 k /\ v = .slice I n' H /\ Own w.heap.size wr I n' H (asc (((es.take k).flatMap (iB l)).filter fun x => decide (x ∉ es.map (dA l)))) /\ Below wo.heap.size wo wr) (fun _ i _ => q - (intOf i).toNat)
  case atStart => exact ⟨0, _, _, _, Nat.zero_le _, rfl, rfl, Own.nil, Below.refl _ _⟩
  obtain ⟨k, I, n', H, hk, rfl, rfl, ho, hb⟩ := hrel
  have HO := Hd ho
  have aX := Hd hb
  have hB := Hd (aA ax.out hb)
  clear ho hb
  by_cases aQ : k < q
  · have aM : decide ((k : Int) < (q : Int)) = true := by simp; omega
    have B : k < es.length := by rw [ad.out]; exact aQ
    obtain ⟨be, oe, rfl, J, c0, c1⟩ := HE.out.es (k := k) B
    have bW := aK hB.out J
    rw [← hB.out.cell (p := ⟨be, oe + k * 2, none⟩) J] at c0
    rw [← hB.out.cell (p := ⟨be, oe + k * 2 + 1, none⟩) J] at c1
    have Q := Hd (av.out _ (List.getElem_mem B))
    have aN := Hd (show (es.take (k + 1)).flatMap (iB l) = (es.take k).flatMap (iB l) ++ iB l ⟨(es[k]?.getD LeT.zero).lut, (es[k]?.getD LeT.zero).ff⟩ from by rw [bU (z := LeT.zero) B, List.flatMap_append, List.flatMap_singleton])
    have bx : Hid (((es.take k).flatMap (iB l)).length <= 4 * k) := by
      show _ <= _
      have h := kg (f := iB l) (m := 4) (xs := es.take k) fun e he => (mZ HF.out (av.out e (List.mem_of_mem_take he))).1
      rw [List.length_take] at h
      have h2 : min k es.length * 4 <= k * 4 := Nat.mul_le_mul_right 4 (Nat.min_le_left _ _)
      omega
    rw [show es[k] = es[k]?.getD LeT.zero by rw [List.getElem?_eq_getElem B]; rfl] at Q
    have bV := Hd (mZ HF.out Q.out).1
    clear B
    generalize es[k]?.getD LeT.zero = e at *
    have D := aD (aB (Below.refl wr.heap.size wr) (.cells #[.int .i64 e.lut, .int .i64 e.ff] 94)) (aD (aA bD.out aX.out) G.out)
    have x0 := aF (k := 0) D rfl
    have x1 := aF (k := 1) D rfl
    have x2 := aF (k := 2) D rfl
    have x3 := aF (k := 3) D rfl
    have lx := aC D
    have hq := aI wr (.cells #[.int .i64 e.lut, .int .i64 e.ff] 94)
    have q0 := aF (k := 0) hq rfl
    have q1 := aF (k := 1) hq rfl
    have lq := aC hq
    have i0 : (0 : Int) <= (k : Int) := by omega
    have i1 : (k : Int) < (q : Int) := by omega
    have a7 := Hd (aB aX.out (.cells #[.int .i64 e.lut, .int .i64 e.ff] 94))
    have bS := Hd (HO.out.below (aB (Below.refl _ _) (.cells #[.int .i64 e.lut, .int .i64 e.ff] 94)))
    clear D hq
    go_wp2_with fail
    refine (yR l SA LA OA sn sc ln lc on oc e.lut e.ff _ (HN.out.below (aA ax.out a7.out)) HF.out Q.out).mono ?_
    rintro _ w1 ⟨IA, m, ic, rfl, oi, b1⟩
    have aj := Hd oi.ints
    have U := Hd (aA a7.out b1)
    have aw := Hd (bS.out.below b1)
    clear b1 oi x0 x1 x2 x3 lx q0 q1 lq c0 c1
    have bQ : m <= 4 := by rw [← aj.out.1]; exact bV.out
    generalize iB l ⟨e.lut, e.ff⟩ = src at *
    generalize (es.take k).flatMap (iB l) = BS at *
    go_wp2_with fail
    go_loopw [6, 61] (fun v i wr => ∃ (j : Nat) (I : Option Addr) (n' H : Nat), j <= m /\ i = .int .i64 j /\ v = .slice I n' H /\ Own w.heap.size wr I n' H (asc ((BS ++ src.take j).filter fun x => decide (x ∉ es.map (dA l)))) /\ Below w1.heap.size w1 wr) (fun _ i _ => m - (intOf i).toNat)
    case atStart => exact ⟨0, _, _, _, Nat.zero_le _, rfl, rfl, by rw [List.take_zero, List.append_nil]; exact aw.out, Below.refl _ _⟩
    obtain ⟨j, A3, n3, c3, hj, rfl, rfl, ho, hb⟩ := hrel
    have ae := Hd ho
    have K := Hd hb
    have V := ho.len
    clear ho hb
    by_cases am : j < m
    · have bF : decide ((j : Int) < (m : Int)) = true := by simp; omega
      obtain ⟨bs, os, rfl, a3, a8⟩ := aj.out.2 (by omega)
      have bH := (K.out.cell (p := ⟨bs, os + j, none⟩) a3).trans (a8 j am)
      have bM := aK K.out a3
      have aY : j < src.length := by rw [aj.out.1]; exact am
      have hg := mI (fun x => decide (x ∉ es.map (dA l))) (BS ++ src.take j) (src[j]?.getD 0)
      rw [List.append_assoc, ← bU aY] at hg
      have HG := Hd hg
      have bt := jQ ((BS ++ src.take j).filter fun x => decide (x ∉ es.map (dA l)))
      have a4 := List.length_filter_le (fun x => decide (x ∉ es.map (dA l))) (BS ++ src.take j)
      rw [List.length_append, List.length_take] at a4
      have bu := bx.out
      have cg : n3 <= 1048576 := by omega
      clear hg a8 bt a4 V aY bu
      generalize asc ((BS ++ src.take j).filter fun x => decide (x ∉ es.map (dA l))) = ys at *
      generalize src[j]?.getD 0 = x at *
      have i2 : (0 : Int) <= (j : Int) := by omega
      have i3 : (j : Int) < (m : Int) := by omega
      go_wp2_with fail
      refine (nK OB q bC (es.map (dA l)) x _ (bO.out.below (aA U.out K.out)) (by omega)).mono ?_
      rintro _ w2 ⟨rfl, rfl⟩
      by_cases D : x ∈ es.map (dA l)
      · have aP : Hid (asc ((BS ++ src.take (j + 1)).filter fun x => decide (x ∉ es.map (dA l))) = ys) := by show _ = _; rw [HG.out, if_neg (by simp only [decide_eq_true_eq]; exact fun h => h D)]
        rw [decide_eq_true D]
        clear HG D
        go_wp2_with fail
        go_roundw
        case rel => exact ⟨j + 1, _, _, _, by omega, by go_num, rfl, by rw [aP.out]; exact ae.out, K.out⟩
        case measure => simp [intOf]; omega
      have aP : Hid (asc ((BS ++ src.take (j + 1)).filter fun x => decide (x ∉ es.map (dA l))) = ins ys x) := by show _ = _; rw [HG.out, if_pos (decide_eq_true D)]
      rw [decide_eq_false D]
      clear HG D
      go_wp2_with fail
      refine (jR w.heap.size A3 n3 c3 ys x _ ae.out (by have h1 := U.out.size; have h2 := K.out.size; have h3 := ax.out.size; omega) (by omega)).mono ?_
      rintro _ w4 ⟨A2, n2, c2, rfl, o2, b2⟩
      have bT := Hd o2
      have bR := Hd (aA K.out b2)
      clear o2 b2 bH bM
      go_wp2_with fail
      go_roundw
      case rel => exact ⟨j + 1, _, _, _, by omega, by go_num, rfl, by rw [aP.out]; exact bT.out, bR.out⟩
      case measure => simp [intOf]; omega
    have a5 : j = m := by omega
    have bF : decide ((j : Int) < (m : Int)) = false := by simp; omega
    have W : Hid (Own w.heap.size wr A3 n3 c3 (asc (((es.take (k + 1)).flatMap (iB l)).filter fun x => decide (x ∉ es.map (dA l))))) := by
      have h := ae.out
      rw [aN.out]
      rwa [a5, List.take_of_length_le (by rw [aj.out.1]; exact Nat.le_refl _)] at h
    clear ae a5
    go_wp2_with fail
    go_roundw
    case rel => exact ⟨k + 1, _, _, _, by omega, by go_num, rfl, W.out, aA U.out K.out⟩
    case measure => simp [intOf]; omega
  have R : k = q := by omega
  have aM : decide ((k : Int) < (q : Int)) = false := by simp; omega
  have W : Hid (Own w.heap.size wr I n' H (fD l es)) := by
    have h := HO.out
    rwa [R, List.take_of_length_le (by rw [ad.out]; exact Nat.le_refl _)] at h
  clear HO R
  go_wp2_with fail
  go_ret
  exact ⟨_, _, _, rfl, by rw [Z.out]; exact W.out, hB.out⟩
end Go.Proofs.YtofihjoanjkdmaaGreat
