/- The program's counts of uses (printed by mkuse.py). -/
import Derived.Test.YtofihjoanjkdmaaGreatCopies
import Derived.Test.YtofihjoanjkdmaaGreatLayRd
import Derived.Test.YtofihjoanjkdmaaGreatLayUP
import Derived.Test.YtofihjoanjkdmaaGreatRt4
namespace Go.Proofs.YtofihjoanjkdmaaGreat
set_option maxHeartbeats 4000000
set_option maxRecDepth 100000
open Go.RowKit
theorem wN (l:ai) (SA LA OA:Option Addr) (sn sc ln lc on oc:Nat) (w:World) (h:fo w l SA LA OA sn sc ln lc on oc) (hf:bA l) :
  Calls Tryz.prog 248 #[jI l SA LA OA sn sc ln lc on oc] w fun e w'=>∃A,e = .returned (.slice A l.count l.count)/\Own w.heap.size w' A l.count l.count (aH l.count (kY l))/\Below w.heap.size w w':=by
 have bh:=Hd (aD (Below.refl w.heap.size w) (.cells (ak l SA LA OA sn sc ln lc on oc) 41))
 have bg:=Hd (aI w (.cells (ak l SA LA OA sn sc ln lc on oc) 41))
 obtain ⟨aV,aU,a0⟩:=h.lens
 have h1:=hf.nseq
 have h2:=hf.nlut
 have h3:=hf.nout
 have bG:=Hd hf.inp
 have a7:=hf.inp
 obtain ⟨HN,HF,aF,aM,bx⟩:=hd5 h hf aU aV a0
 have hC:1+l.inputs+(sn:Int)+(ln:Int)=(l.count:Int):=by unfold ai.count ai.first;omega
 have aY:Hid ((l.first:Int)+(ln:Int)=(l.count:Int)):=by show _=_;unfold ai.count;omega
 obtain ⟨C,ax⟩:∃C,l.count=C:=⟨_,rfl⟩
 have aE:=Hd ax
 rw [ax] at hC
 have bH:C<=433:=by omega
 have G:sn<=12:=by omega
 have bI:ln<=400:=by omega
 have bz:on<=16:=by omega
 obtain ⟨i0,hi,aZ,aW,aT⟩:=info_parts kC
 have a1:=fun W=>dP (P:=Tryz.prog) 26 3 i0 _ Tryz.underlying26 hi aZ .i64 .i64 C C (Nat.le_refl _) (by rw [aT];omega) (by omega) W
 rw [aW,Nat.mul_one,show (Value.int .i64 0).cells=#[Value.int .i64 0] from rfl,sw] at a1
 have HC:=Hd hC
 rw [ax]
 clear h hf aV aU a0 h1 h2 h3 ax hi aZ aW aT hC
 go_enter Tryz.func248,Tryz.ntmps248
 go_wp2_with fail
 refine (su l.inputs SA LA OA sn sc ln lc on oc _ (by omega) (by omega) (by omega) (by omega)).mono ?_
 rw [HC.out]
 rintro _ z ⟨rfl,b1⟩
 have aw:=Hd (aC b1 bg.out)
 have H:=Hd (aA bh.out b1)
 have aP:=(aJ.refl z).consOwn (aD (Below.refl _ _) (.cells (arr (List.replicate C 0)) 3)) (Own.arr (n:=C) (aI z _) (Nat.le_refl _) (by unfold maxLen;omega) (by simp))
 have bj:=Hd (show aJ z (z.alloc (.cells (arr (List.replicate C 0)) 3)) [.cel (aG (aH C ((l.luts.take 0).flatMap Lt.ins))) (.slice (some ⟨z.heap.size,0,none⟩) C C)] from by
  rw [List.take_zero,List.flatMap_nil,pW]
  exact aP)
 have bf:=Hd (aC aP.bel aw.out)
 clear b1 aP a7
 have hx:=bf.out
 obtain ⟨x0,x1,x2,x3,lx⟩:=bX hx
 have bB:w.heap.size≠z.heap.size:=by have:=aB aw.out;omega
 clear hx
 go_wp2_with fail
 clear x0 x1 x2 x3 lx a1
 go_loopw [20] (fun i wr=>∃k:Nat,k<=ln/\i = .int .i64 (k:Int)/\aJ z wr [.cel (aG (aH C ((l.luts.take k).flatMap Lt.ins))) (.slice (some ⟨z.heap.size,0,none⟩) C C)]) (fun i _=>ln - (intOf i).toNat)
 ·exact ⟨0,by omega,rfl,bj.out⟩
 obtain ⟨k,hk,rfl,hs⟩:=hrel
 have u:=Hd hs
 clear hs
 by_cases ah:k<ln
 ·have aN:=dT (by omega:k<ln)
  obtain ⟨b,o,S,m,p,hA,U,c0,c1,r2⟩:=HN.out.lt.lut' (k:=k) (by rw [aF.out];exact ah)
  have V:=aA H.out u.out.bel
  have bk:=aK V U
  have c0:=(V.cell (p:=⟨b,o+k * 2,none⟩) U).trans c0
  have c1:=(V.cell (p:=⟨b,o+k * 2+1,none⟩) U).trans c1
  have aO:=Hd r2
  have Z:k<l.luts.length:=by rw [aF.out];exact ah
  have al:=Hd (show ((l.luts.take k).flatMap Lt.ins)++(l.luts[k]?.getD Lt.zero).ins=(l.luts.take (k+1)).flatMap Lt.ins from by rw [wU Z])
  have ap:Hid (∀n∈(l.luts[k]?.getD Lt.zero).ins,0<=n/\n<(C:Int)):=fun n hn=>by
   have h:=(HF.out.luts k Z).2.2 n hn
   have h2:=aE.out
   have h3:=aY.out
   omega
  have ag:Hid (((l.luts.take k).flatMap Lt.ins).length+(l.luts[k]?.getD Lt.zero).ins.length<=3000):=by
   show _<=_
   have h1:=congrArg List.length al.out
   rw [List.length_append] at h1
   have h2:=jM HF.out (k+1)
   have h3:=mX HF.out (k+1)
   have h4:=jM HF.out l.luts.length
   rw [List.take_length] at h4
   (try simp only [List.length_append] at h1 ⊢)
   omega
  subst hA
  clear r2 Z
  generalize l.luts[k]?.getD Lt.zero=x at *
  generalize (l.luts.take k).flatMap Lt.ins=BS at *
  have aL:=Hd (u.out.alloc (.cells #[.slice S m p,.int .i64 x.mask] 96))
  obtain ⟨i0,i1⟩:=ib (by omega:k<ln)
  obtain ⟨y0,ly⟩:=EQ (aI wr (.cells #[.slice S m p,.int .i64 x.mask] 96))
  obtain ⟨wo,rfl⟩:∃y,y=wr:=⟨wr,rfl⟩
  go_wp2_with fail
  clear c0 c1 y0 ly
  go_loopw [27] (fun i wr=>∃j:Nat,j<=m/\i = .int .i64 (j:Int)/\aJ z wr [.cel (aG (aH C (lC (BS) (x.ins) j))) (.slice (some ⟨z.heap.size,0,none⟩) C C)]) (fun i _=>m - (intOf i).toNat)
  ·exact ⟨0,by omega,rfl,by rw [mY];exact aL.out⟩
  obtain ⟨j,hj,rfl,hs⟩:=hrel
  have u:=Hd hs
  have g:=Hd (aO.out.ints)
  by_cases D:j<m
  ·have af:=dT (by omega:j<m)
   obtain ⟨bt,ot,hA,I,K⟩:=g.out.2 (by omega)
   have HA:=Hd hA
   have au:=((aA H.out hs.bel).cell (p:=⟨bt,ot+j,none⟩) I).trans (K j D)
   have a5:=aK (aA H.out hs.bel) I
   have B:j<(x.ins).length:=by rw [g.out.1];exact D
   have Y:=ap.out _ (List.getElem_mem B)
   have G:=mf (bs:=BS) B
   rw [List.getElem?_eq_getElem B,Option.getD_some] at au G
   have Q:=oW (BS) (x.ins) j
   have J:=ag.out
   have aj:=g.out.1
   generalize (x.ins)[j]=x at *
   obtain ⟨X,rfl⟩:=Int.eq_ofNat_of_zero_le Y.1
   have ar:X<C:=by omega
   obtain ⟨cX,fX,lX,hN⟩:=oZ hs ar
   rw [G] at hN
   have ao:=fC (lC (BS) (x.ins) j) (X:Int)
   have am:=Hd hN
   clear hN G K hs
   generalize cnt (lC (BS) (x.ins) j) (X:Int)=q at *
   have hq:q<=10000:=by omega
   have aS:j<=10000:=by omega
   clear ao Q J aj B Y
   obtain ⟨i0,i1⟩:=ib (by omega:j<m)
   obtain ⟨i2,i3⟩:=ib (by omega:X<C)
   subst hA
   go_wp2_with fail
   go_roundw
   ·exact ⟨j+1,by omega,by go_num,am.out⟩
   simp [intOf];omega
  have R:j=m:=by omega
  have af:=dF (by omega:m<=j)
  have HD:=Hd (show aJ z wr [.cel (aG (aH C ((BS)++(x.ins)))) (.slice (some ⟨z.heap.size,0,none⟩) C C)] from by rw [←mZ g.out.1,←R];exact hs)
  clear hs g u R
  have az:=Hd (show aJ z wr [.cel (aG (aH C ((l.luts.take (k+1)).flatMap Lt.ins))) (.slice (some ⟨z.heap.size,0,none⟩) C C)] from by rw [←al.out];exact HD.out)
  go_wp2_with fail
  go_roundw
  ·exact ⟨k+1,by omega,by go_num,az.out⟩
  simp [intOf];omega
 have aq:k=ln:=by omega
 have aN:=dF (by omega:ln<=k)
 have a9:=Hd (show aJ z wr [.cel (aG (aH C (l.luts.flatMap Lt.ins++(l.seqs.take 0).flatMap Sq.ins))) (.slice (some ⟨z.heap.size,0,none⟩) C C)] from by
  have h:=u.out
  rw [aq,←aF.out,List.take_length] at h
  simpa using h)
 obtain ⟨-,x1,lx⟩:=fZ (aC u.out.bel aw.out)
 clear aq u
 obtain ⟨wo,rfl⟩:∃y,y=wr:=⟨wr,rfl⟩
 go_wp2_with fail
 clear x1 lx
 go_loopw [42] (fun i wr=>∃k:Nat,k<=sn/\i = .int .i64 (k:Int)/\aJ z wr [.cel (aG (aH C (l.luts.flatMap Lt.ins++(l.seqs.take k).flatMap Sq.ins))) (.slice (some ⟨z.heap.size,0,none⟩) C C)]) (fun i _=>sn - (intOf i).toNat)
 ·exact ⟨0,by omega,rfl,a9.out⟩
 obtain ⟨k,hk,rfl,hs⟩:=hrel
 have u:=Hd hs
 clear hs
 by_cases ah:k<sn
 ·have aN:=dT (by omega:k<sn)
  obtain ⟨b,o,S,m,p,hA,U,c0,c1,c2,r2⟩:=HN.out.sq.sq' (k:=k) (by rw [aM.out];exact ah)
  have V:=aA H.out u.out.bel
  have bk:=aK V U
  have c0:=(V.cell (p:=⟨b,o+k * 3,none⟩) U).trans c0
  have c1:=(V.cell (p:=⟨b,o+k * 3+1,none⟩) U).trans c1
  have c2:=(V.cell (p:=⟨b,o+k * 3+2,none⟩) U).trans c2
  have aO:=Hd r2
  have Z:k<l.seqs.length:=by rw [aM.out];exact ah
  have al:=Hd (show (l.luts.flatMap Lt.ins++(l.seqs.take k).flatMap Sq.ins)++(l.seqs[k]?.getD Sq.zero).ins=l.luts.flatMap Lt.ins++(l.seqs.take (k+1)).flatMap Sq.ins from by rw [List.append_assoc,uj Z])
  have ap:Hid (∀n∈(l.seqs[k]?.getD Sq.zero).ins,0<=n/\n<(C:Int)):=fun n hn=>by
   have h:=(HF.out.seqs k Z).2 n hn
   have h2:=aE.out
   have h3:=aY.out
   omega
  have ag:Hid ((l.luts.flatMap Lt.ins++(l.seqs.take k).flatMap Sq.ins).length+(l.seqs[k]?.getD Sq.zero).ins.length<=3000):=by
   show _<=_
   have h1:=congrArg List.length al.out
   rw [List.length_append] at h1
   have h2:=jM HF.out (k+1)
   have h3:=mX HF.out (k+1)
   have h4:=jM HF.out l.luts.length
   rw [List.take_length] at h4
   (try simp only [List.length_append] at h1 ⊢)
   omega
  subst hA
  clear r2 Z
  generalize l.seqs[k]?.getD Sq.zero=x at *
  generalize l.luts.flatMap Lt.ins++(l.seqs.take k).flatMap Sq.ins=BS at *
  have aL:=Hd (u.out.alloc (.cells #[.int .i64 x.kind,.int .i64 x.init,.slice S m p] 91))
  obtain ⟨i0,i1⟩:=ib (by omega:k<sn)
  obtain ⟨-,-,y2,ly⟩:=jU (aI wr (.cells #[.int .i64 x.kind,.int .i64 x.init,.slice S m p] 91))
  obtain ⟨wo,rfl⟩:∃y,y=wr:=⟨wr,rfl⟩
  go_wp2_with fail
  clear c0 c1 c2 y2 ly
  go_loopw [49] (fun i wr=>∃j:Nat,j<=m/\i = .int .i64 (j:Int)/\aJ z wr [.cel (aG (aH C (lC (BS) (x.ins) j))) (.slice (some ⟨z.heap.size,0,none⟩) C C)]) (fun i _=>m - (intOf i).toNat)
  ·exact ⟨0,by omega,rfl,by rw [mY];exact aL.out⟩
  obtain ⟨j,hj,rfl,hs⟩:=hrel
  have u:=Hd hs
  have g:=Hd (aO.out.ints)
  by_cases D:j<m
  ·have af:=dT (by omega:j<m)
   obtain ⟨bt,ot,hA,I,K⟩:=g.out.2 (by omega)
   have HA:=Hd hA
   have au:=((aA H.out hs.bel).cell (p:=⟨bt,ot+j,none⟩) I).trans (K j D)
   have a5:=aK (aA H.out hs.bel) I
   have B:j<(x.ins).length:=by rw [g.out.1];exact D
   have Y:=ap.out _ (List.getElem_mem B)
   have G:=mf (bs:=BS) B
   rw [List.getElem?_eq_getElem B,Option.getD_some] at au G
   have Q:=oW (BS) (x.ins) j
   have J:=ag.out
   have aj:=g.out.1
   generalize (x.ins)[j]=x at *
   obtain ⟨X,rfl⟩:=Int.eq_ofNat_of_zero_le Y.1
   have ar:X<C:=by omega
   obtain ⟨cX,fX,lX,hN⟩:=oZ hs ar
   rw [G] at hN
   have ao:=fC (lC (BS) (x.ins) j) (X:Int)
   have am:=Hd hN
   clear hN G K hs
   generalize cnt (lC (BS) (x.ins) j) (X:Int)=q at *
   have hq:q<=10000:=by omega
   have aS:j<=10000:=by omega
   clear ao Q J aj B Y
   obtain ⟨i0,i1⟩:=ib (by omega:j<m)
   obtain ⟨i2,i3⟩:=ib (by omega:X<C)
   subst hA
   go_wp2_with fail
   go_roundw
   ·exact ⟨j+1,by omega,by go_num,am.out⟩
   simp [intOf];omega
  have R:j=m:=by omega
  have af:=dF (by omega:m<=j)
  have HD:=Hd (show aJ z wr [.cel (aG (aH C ((BS)++(x.ins)))) (.slice (some ⟨z.heap.size,0,none⟩) C C)] from by rw [←mZ g.out.1,←R];exact hs)
  clear hs g u R
  have az:=Hd (show aJ z wr [.cel (aG (aH C (l.luts.flatMap Lt.ins++(l.seqs.take (k+1)).flatMap Sq.ins))) (.slice (some ⟨z.heap.size,0,none⟩) C C)] from by rw [←al.out];exact HD.out)
  go_wp2_with fail
  go_roundw
  ·exact ⟨k+1,by omega,by go_num,az.out⟩
  simp [intOf];omega
 have aq:k=sn:=by omega
 have aN:=dF (by omega:sn<=k)
 have bc:=Hd (show aJ z wr [.cel (aG (aH C (l.luts.flatMap Lt.ins++l.seqs.flatMap Sq.ins))) (.slice (some ⟨z.heap.size,0,none⟩) C C)] from by
  have h:=u.out
  rwa [aq,←aM.out,List.take_length] at h)
 obtain ⟨-,-,-,x3,lx⟩:=bX (aC u.out.bel aw.out)
 clear aq u
 have ap:Hid (∀n∈l.outs,0<=n/\n<(C:Int)):=fun n hn=>by
  have h:=HF.out.outs n hn
  have h2:=aE.out
  omega
 have ag:Hid ((l.luts.flatMap Lt.ins++l.seqs.flatMap Sq.ins).length+l.outs.length<=3000):=by
  show _<=_
  have h3:=mX HF.out l.seqs.length
  have h4:=jM HF.out l.luts.length
  rw [List.take_length] at h3 h4
  have h5:=HF.out.nout
  rw [List.length_append]
  omega
 obtain ⟨wo,rfl⟩:∃y,y=wr:=⟨wr,rfl⟩
 go_wp2_with fail
 clear x3 lx
 go_loopw [64] (fun i wr=>∃j:Nat,j<=on/\i = .int .i64 (j:Int)/\aJ z wr [.cel (aG (aH C (lC (l.luts.flatMap Lt.ins++l.seqs.flatMap Sq.ins) (l.outs) j))) (.slice (some ⟨z.heap.size,0,none⟩) C C)]) (fun i _=>on - (intOf i).toNat)
 ·exact ⟨0,by omega,rfl,by rw [mY];exact bc.out⟩
 obtain ⟨j,hj,rfl,hs⟩:=hrel
 have u:=Hd hs
 have g:=Hd (HN.out.ou.ints)
 by_cases D:j<on
 ·have af:=dT (by omega:j<on)
  obtain ⟨bt,ot,hA,I,K⟩:=g.out.2 (by omega)
  have HA:=Hd hA
  have au:=((aA H.out hs.bel).cell (p:=⟨bt,ot+j,none⟩) I).trans (K j D)
  have a5:=aK (aA H.out hs.bel) I
  have B:j<(l.outs).length:=by rw [g.out.1];exact D
  have Y:=ap.out _ (List.getElem_mem B)
  have G:=mf (bs:=l.luts.flatMap Lt.ins++l.seqs.flatMap Sq.ins) B
  rw [List.getElem?_eq_getElem B,Option.getD_some] at au G
  have Q:=oW (l.luts.flatMap Lt.ins++l.seqs.flatMap Sq.ins) (l.outs) j
  have J:=ag.out
  have aj:=g.out.1
  generalize (l.outs)[j]=x at *
  obtain ⟨X,rfl⟩:=Int.eq_ofNat_of_zero_le Y.1
  have ar:X<C:=by omega
  obtain ⟨cX,fX,lX,hN⟩:=oZ hs ar
  rw [G] at hN
  have ao:=fC (lC (l.luts.flatMap Lt.ins++l.seqs.flatMap Sq.ins) (l.outs) j) (X:Int)
  have am:=Hd hN
  clear hN G K hs
  generalize cnt (lC (l.luts.flatMap Lt.ins++l.seqs.flatMap Sq.ins) (l.outs) j) (X:Int)=q at *
  have hq:q<=10000:=by omega
  have aS:j<=10000:=by omega
  clear ao Q J aj B Y
  obtain ⟨i0,i1⟩:=ib (by omega:j<on)
  obtain ⟨i2,i3⟩:=ib (by omega:X<C)
  subst hA
  go_wp2_with fail
  go_roundw
  ·exact ⟨j+1,by omega,by go_num,am.out⟩
  simp [intOf];omega
 have R:j=on:=by omega
 have af:=dF (by omega:on<=j)
 have HD:=Hd (show aJ z wr [.cel (aG (aH C ((l.luts.flatMap Lt.ins++l.seqs.flatMap Sq.ins)++(l.outs)))) (.slice (some ⟨z.heap.size,0,none⟩) C C)] from by rw [←mZ g.out.1,←R];exact hs)
 clear hs g u R
 go_wp2_with fail
 go_ret
 exact ⟨_,rfl,(HD.out.owned 0 rfl).more (by have:=H.out.size;omega),aA H.out HD.out.bel⟩
theorem nC {l:ai} {a b:Int}:dQ l ⟨a,b⟩↔(-1<=a/\a<(l.luts.length:Int))/\(-1<=b/\b<(l.seqs.length:Int))/\¬(a=-1/\b=-1)/\(0<=b→(l.seqs[b.toNat]?.getD Sq.zero).kind=0) /\
  (0<=a→0<=b→(l.seqs[b.toNat]?.getD Sq.zero).ins[0]?.getD 0=(l.first:Int)+a/\AY l ((l.first:Int)+a)=1) :=
 ⟨fun h=>⟨h.lut,h.ff,h.one,h.flop,h.both⟩,fun h=>⟨h.1,h.2.1,h.2.2.1,h.2.2.2.1,h.2.2.2.2⟩⟩
theorem qE (l:ai) (SA LA OA:Option Addr) (sn sc ln lc on oc:Nat) (a b:Int) (w:World) (h:fo w l SA LA OA sn sc ln lc on oc) (hf:bA l) (he:dQ l ⟨a,b⟩) :
  Calls Tryz.prog 142 #[jI l SA LA OA sn sc ln lc on oc,.agg #[.int .i64 a,.int .i64 b]] w fun e w'=>e = .returned (.int .i64 (cZ l ⟨a,b⟩))/\Below w.heap.size w w':=by
 have g:cZ l ⟨a,b⟩=if 0<=b then 1+l.inputs+b else (l.first:Int)+a:=rfl
 obtain ⟨e1,e2,e3,_⟩:=nC.1 he
 have z:=h.lens.1
 have u:=h.lens.2.1
 rw [z] at e2
 rw [u] at e1
 clear z u
 have K:=Hd (aD (aD (Below.refl w.heap.size w) (.cells (ak l SA LA OA sn sc ln lc on oc) 41)) (.cells #[.int .i64 a,.int .i64 b] 94))
 have hx:=bS (.cells #[.int .i64 a,.int .i64 b] 94) (aI w (.cells (ak l SA LA OA sn sc ln lc on oc) 41))
 have Y:=aI (w.alloc (.cells (ak l SA LA OA sn sc ln lc on oc) 41)) (.cells #[.int .i64 a,.int .i64 b] 94)
 simp only [World.size_alloc] at Y
 obtain ⟨q,j⟩:=hd2 hx Y
 clear hx Y
 obtain ⟨D,B,H⟩:=h.lens
 have Z:=hf.nseq
 have V:=hf.nlut
 have ad:=hf.nout
 have U:=hf.inp
 rw [D] at Z
 rw [B] at V
 rw [H] at ad
 obtain ⟨HN,HF,aq,ay,au⟩:=hd5 h hf D B H
 have Q:Hid ((l.first:Int)=1+l.inputs+(sn:Int)):=by show _=_;unfold ai.first;omega
 have ao:Hid ((l.count:Int)=1+l.inputs+(sn:Int)+(ln:Int)):=by show _=_;unfold ai.count ai.first;omega
 clear h hf D B H
 by_cases h0:0<=b
 ·have d0:decide (b≥0)=true:=decide_eq_true h0
  rw [if_pos h0] at g
  have G:=Hd g
  clear g e1 e3
  go_enter Tryz.func142,Tryz.ntmps142
  go_upto_region 1 with fail
  generalize (w.alloc (.cells (ak l SA LA OA sn sc ln lc on oc) 41)).alloc (.cells #[.int .i64 a,.int .i64 b] 94)=I at *
  have x0:=aF (k:=0) q.out rfl
  have y1:=aF (k:=1) j.out rfl
  have lx:=aB q.out
  have ly:=aB j.out
  go_wp2_with fail
  go_ret
  exact ⟨aL G.out.symm,K.out⟩
 have d0:decide (b≥0)=false:=decide_eq_false h0
 rw [if_neg h0,Q.out] at g
 have G:=Hd g
 have ha:0<=a:=by omega
 clear g e2 e3 h0
 go_enter Tryz.func142,Tryz.ntmps142
 go_upto_region 1 with fail
 generalize (w.alloc (.cells (ak l SA LA OA sn sc ln lc on oc) 41)).alloc (.cells #[.int .i64 a,.int .i64 b] 94)=I at *
 obtain ⟨x0,x1,x2,x3⟩:=cs4 q.out
 obtain ⟨y0,y1⟩:=cs2 j.out
 have lx:=aB q.out
 have ly:=aB j.out
 go_upto_region 3 with fail
 have W:=Hd (fun (x:Sub I)=>kW l.inputs SA LA OA sn sc ln lc on oc x.v U.1 (by omega) (by omega))
 have J:=aX I
 have R:=aP I
 refine wpB I ?_
 repeat (go_big_quiet_step ((first
  | (go_at_call 177;with_reducible exact aN (W.out _)))))
 refine wpQuiet_nil ?_
 rintro _ ⟨⟨w5,hD⟩,rfl⟩
 clear J R
 have HD:=Hd (aA K.out hD)
 clear x0 x1 x2 x3 y0 y1 lx ly hD
 go_wp2_with fail
 go_ret
 exact ⟨aL G.out.symm,HD.out⟩
theorem ER (l:ai) (SA LA OA:Option Addr) (sn sc ln lc on oc:Nat) (a b:Int) (w:World) (h:fo w l SA LA OA sn sc ln lc on oc) (hf:bA l) :
  Calls Tryz.prog 257 #[jI l SA LA OA sn sc ln lc on oc,.agg #[.int .i64 a,.int .i64 b]] w fun e w'=>e = .returned (.bool (tb (dQ l ⟨a,b⟩)))/\Below w.heap.size w w':=by
 have D:=nC (l:=l) (a:=a) (b:=b)
 have aG:=h.lens.1
 have aE:=h.lens.2.1
 rw [aG,aE] at D
 clear aG aE
 have u:=Hd (aD (aD (Below.refl w.heap.size w) (.cells (ak l SA LA OA sn sc ln lc on oc) 41)) (.cells #[.int .i64 a,.int .i64 b] 94))
 have hx:=bS (.cells #[.int .i64 a,.int .i64 b] 94) (aI w (.cells (ak l SA LA OA sn sc ln lc on oc) 41))
 have hy:=aI (w.alloc (.cells (ak l SA LA OA sn sc ln lc on oc) 41)) (.cells #[.int .i64 a,.int .i64 b] 94)
 simp only [World.size_alloc] at hy
 obtain ⟨g,j⟩:=hd2 hx hy
 clear hx hy
 obtain ⟨aL,aJ,aR⟩:=h.lens
 have bl:=hf.nseq
 have bo:=hf.nlut
 have bg:=hf.nout
 have aH:=hf.inp
 rw [aL] at bl
 rw [aJ] at bo
 rw [aR] at bg
 obtain ⟨HN,HF,a6,bK,bE⟩:=hd5 h hf aL aJ aR
 have a5:Hid ((l.first:Int)=1+l.inputs+(sn:Int)):=by show _=_;unfold ai.first;omega
 have aZ:Hid ((l.count:Int)=1+l.inputs+(sn:Int)+(ln:Int)):=by show _=_;unfold ai.count ai.first;omega
 clear h hf aL aJ aR
 cases ad:inR a (-1) ((ln:Int) - 1) with
 | false =>
  have I:Hid (¬dQ l ⟨a,b⟩):=fun h=>by
   have h2:=(D.1 h).1
   rw [aU.2 ⟨h2.1,by omega⟩] at ad
   cases ad
  have H1:=Hd ad
  clear ad D
  go_enter Tryz.func257,Tryz.ntmps257
  go_upto_region 1 with fail
  generalize (w.alloc (.cells (ak l SA LA OA sn sc ln lc on oc) 41)).alloc (.cells #[.int .i64 a,.int .i64 b] 94)=B at *
  have R:=aF (k:=2) g.out rfl
  have y0:=aF (k:=0) j.out rfl
  have U:=aB g.out
  have W:=aB j.out
  go_wp2_with fail
  refine (aM a (-1) ((ln:Int) - 1) _).mono ?_
  rw [H1.out]
  rintro _ w' ⟨rfl,rfl⟩
  go_wp2_with fail
  go_ret
  exact ⟨aO I.out,u.out⟩
 | true =>
  have ha:=aU.1 ad
  have H1:=Hd ad
  clear ad
  cases ae:inR b (-1) ((sn:Int) - 1) with
  | false =>
   have I:Hid (¬dQ l ⟨a,b⟩):=fun h=>by
    have h2:=(D.1 h).2.1
    rw [aU.2 ⟨h2.1,by omega⟩] at ae
    cases ae
   have H2:=Hd ae
   clear ae D
   go_enter Tryz.func257,Tryz.ntmps257
   go_upto_region 1 with fail
   generalize (w.alloc (.cells (ak l SA LA OA sn sc ln lc on oc) 41)).alloc (.cells #[.int .i64 a,.int .i64 b] 94)=B at *
   obtain ⟨-,Y,R⟩:=cs3 g.out
   obtain ⟨y0,Z⟩:=cs2 j.out
   have U:=aB g.out
   have W:=aB j.out
   go_wp2_with fail
   refine (aM a (-1) ((ln:Int) - 1) _).mono ?_
   rw [H1.out]
   rintro _ w' ⟨rfl,rfl⟩
   go_wp2_with fail
   refine (aM b (-1) ((sn:Int) - 1) _).mono ?_
   rw [H2.out]
   rintro _ w' ⟨rfl,rfl⟩
   go_wp2_with fail
   go_ret
   exact ⟨aO I.out,u.out⟩
  | true =>
   have hb:=aU.1 ae
   have H2:=Hd ae
   clear ae
   by_cases hn:a=-1/\b=-1
   ·have I:Hid (¬dQ l ⟨a,b⟩):=fun h=>(D.1 h).2.2.1 hn
    obtain ⟨rfl,rfl⟩:=hn
    clear D
    go_enter Tryz.func257,Tryz.ntmps257
    go_upto_region 1 with fail
    generalize (w.alloc (.cells (ak l SA LA OA sn sc ln lc on oc) 41)).alloc (.cells #[.int .i64 (-1),.int .i64 (-1)] 94)=B at *
    obtain ⟨-,Y,R⟩:=cs3 g.out
    obtain ⟨y0,Z⟩:=cs2 j.out
    have U:=aB g.out
    have W:=aB j.out
    go_wp2_with fail
    refine (aM (-1) (-1) ((ln:Int) - 1) _).mono ?_
    rw [H1.out]
    rintro _ w' ⟨rfl,rfl⟩
    go_wp2_with fail
    refine (aM (-1) (-1) ((sn:Int) - 1) _).mono ?_
    rw [H2.out]
    rintro _ w' ⟨rfl,rfl⟩
    go_wp2_with fail
    go_ret
    exact ⟨aO I.out,u.out⟩
   have aj:((a==-1) && (b==-1))=false:=by simp;omega
   have aw:(a==-1)=false∨(a==-1)=true/\(b==-1)=false:=by simp;omega
   by_cases aV:0<=b
   ·have d1:decide (b≥0)=true:=decide_eq_true aV
    have db:(b==-1)=false:=by simp;omega
    obtain ⟨F,rfl⟩:∃F:Nat,b=(F:Int):=⟨b.toNat,by omega⟩
    rw [Int.toNat_natCast] at D
    have hF:F<sn:=by omega
    obtain ⟨bs,os,IA,im,ic,rfl,aS,c0,c1,c2,r2⟩:=HN.out.sq.sq' (k:=F) (by rw [a6.out];exact hF)
    have bH:(l.seqs[F]?.getD Sq.zero).ins.length=im:=r2.ints.1
    have a0:=(HF.out.seqs F (by rw [a6.out];exact hF)).1
    have H:=aK u.out aS
    rw [←u.out.cell (p:=⟨bs,os+F * 3,none⟩) aS] at c0
    rw [←u.out.cell (p:=⟨bs,os+F * 3+2,none⟩) aS] at c2
    have bq:=Hd r2
    clear c1 r2
    generalize l.seqs[F]?.getD Sq.zero=s at *
    by_cases hk:s.kind=0
    ·have dk:(s.kind==0)=true:=by simp [hk]
     have bm:(s.kind != 0)=false:=by simp [hk]
     by_cases av:0<=a
     ·have d2:decide (a≥0)=true:=decide_eq_true av
      have da:(a==-1)=false:=by simp;omega
      obtain ⟨A,rfl⟩:∃A:Nat,a=(A:Int):=⟨a.toNat,by omega⟩
      have hA:A<ln:=by omega
      have ax:0<im:=by rcases a0 with h|h <;> omega
      obtain ⟨K,hK⟩:∃K:Nat,1+l.inputs+(sn:Int)+(A:Int)=(K:Int):=⟨(1+l.inputs+(sn:Int)+(A:Int)).toNat,by omega⟩
      have am:K<l.count:=by have:=aZ.out;omega
      have a2:AY l ((l.first:Int)+(A:Int))=cnt (kY l) (K:Int):=by rw [ym,a5.out,hK]
      have a4:(l.first:Int)+(A:Int)=(K:Int):=by rw [a5.out,hK]
      rw [a2,a4] at D
      have bp:l.count<=1048576:=by have:=aZ.out;omega
      have HK:=Hd hK
      obtain ⟨bi,oi,rfl,aY,a7⟩:=bq.out.ints.2 ax
      have ci:=a7 0 ax
      have G:=aK u.out aY
      rw [←u.out.cell (p:=⟨bi,oi+0,none⟩) aY,Nat.add_zero] at ci
      clear a7 a0 aj aw a2 a4 hK
      generalize s.ins[0]?.getD 0=y at *
      have HU:=Hd (fun (v:World) (hv:Below w.heap.size w v)=>wN l (some ⟨bs,os,none⟩) LA OA sn sc ln lc on oc v (HN.out.below hv) HF.out)
      obtain ⟨C,hC⟩:∃C,l.count=C:=⟨_,rfl⟩
      rw [hC] at am bp HU
      have HC:=Hd hC
      clear hC
      by_cases hy:y=(K:Int)
      ·by_cases hq:cnt (kY l) (K:Int)=1
       ·have I:Hid (dQ l ⟨(A:Int),(F:Int)⟩):=D.2 ⟨⟨by omega,by omega⟩,⟨by omega,by omega⟩,by omega,fun _=>hk,fun _ _=>⟨hy,hq⟩⟩
        have HQ:=Hd hq
        subst hy
        clear D hq hk
        go_enter Tryz.func257,Tryz.ntmps257
        go_upto_region 1 with fail
        generalize (w.alloc (.cells (ak l (some ⟨bs,os,none⟩) LA OA sn sc ln lc on oc) 41)).alloc (.cells #[.int .i64 (A:Int),.int .i64 (F:Int)] 94)=B at *
        obtain ⟨x0,Y,R,x3⟩:=cs4 g.out
        obtain ⟨y0,Z⟩:=cs2 j.out
        have U:=aB g.out
        have W:=aB j.out
        go_wp2_with fail
        refine (aM (A:Int) (-1) ((ln:Int) - 1) _).mono ?_
        rw [H1.out]
        rintro _ w' ⟨rfl,rfl⟩
        go_wp2_with fail
        refine (aM (F:Int) (-1) ((sn:Int) - 1) _).mono ?_
        rw [H2.out]
        rintro _ w' ⟨rfl,rfl⟩
        go_upto_region 6 with fail
        have al:=Hd (fun (x:Sub B)=>kW l.inputs (some ⟨bs,os,none⟩) LA OA sn sc ln lc on oc x.v aH.1 (by omega) (by omega))
        have Q:=aX B
        have ao:=aP B
        refine wpB B ?_
        repeat (go_big_quiet_step ((first
         | (go_at_call 177;with_reducible exact aN (al.out _)))))
        refine wpQuiet_nil ?_
        rintro _ ⟨⟨w5,z⟩,rfl⟩
        clear Q ao
        rw [HK.out]
        have HD:=Hd (aA u.out z)
        have J:=Hd (aC z g.out)
        have V:=Hd (aC z j.out)
        have ay:=aK z H
        have az:=aK z G
        rw [←z.cell (p:=⟨bs,os+F * 3+2,none⟩) H] at c2
        rw [←z.cell (p:=⟨bi,oi,none⟩) G] at ci
        clear x0 Y R x3 y0 Z U W z c0 H G
        obtain ⟨x0,Y,R,x3⟩:=cs4 J.out
        have Z:=aF (k:=1) V.out rfl
        have U:=aB J.out
        have W:=aB V.out
        go_wp2_with fail
        refine (HU.out _ HD.out).mono ?_
        rintro _ w6 ⟨UA,rfl,o6,b6⟩
        have aQ:=Hd (aA HD.out b6)
        obtain ⟨bu,ou,rfl,bh,ah⟩:=o6.ints.2 (by omega)
        have cu:=ah K am
        rw [jb _ am,HQ.out] at cu
        clear o6 b6 ah x0 Y R x3 Z U W c2 ci
        go_wp2_with fail
        go_ret
        exact ⟨dU I.out,aQ.out⟩
       have I:Hid (¬dQ l ⟨(A:Int),(F:Int)⟩):=fun h=>hq ((D.1 h).2.2.2.2 (by omega) (by omega)).2
       have bL:=fC (kY l) (K:Int)
       have HQ:=Hd hq
       subst hy
       clear D hq hk
       go_enter Tryz.func257,Tryz.ntmps257
       go_upto_region 1 with fail
       generalize (w.alloc (.cells (ak l (some ⟨bs,os,none⟩) LA OA sn sc ln lc on oc) 41)).alloc (.cells #[.int .i64 (A:Int),.int .i64 (F:Int)] 94)=B at *
       obtain ⟨x0,Y,R,x3⟩:=cs4 g.out
       obtain ⟨y0,Z⟩:=cs2 j.out
       have U:=aB g.out
       have W:=aB j.out
       go_wp2_with fail
       refine (aM (A:Int) (-1) ((ln:Int) - 1) _).mono ?_
       rw [H1.out]
       rintro _ w' ⟨rfl,rfl⟩
       go_wp2_with fail
       refine (aM (F:Int) (-1) ((sn:Int) - 1) _).mono ?_
       rw [H2.out]
       rintro _ w' ⟨rfl,rfl⟩
       go_upto_region 6 with fail
       have al:=Hd (fun (x:Sub B)=>kW l.inputs (some ⟨bs,os,none⟩) LA OA sn sc ln lc on oc x.v aH.1 (by omega) (by omega))
       have Q:=aX B
       have ao:=aP B
       refine wpB B ?_
       repeat (go_big_quiet_step ((first
        | (go_at_call 177;with_reducible exact aN (al.out _)))))
       refine wpQuiet_nil ?_
       rintro _ ⟨⟨w5,z⟩,rfl⟩
       clear Q ao
       rw [HK.out]
       have HD:=Hd (aA u.out z)
       have J:=Hd (aC z g.out)
       have V:=Hd (aC z j.out)
       have ay:=aK z H
       have az:=aK z G
       rw [←z.cell (p:=⟨bs,os+F * 3+2,none⟩) H] at c2
       rw [←z.cell (p:=⟨bi,oi,none⟩) G] at ci
       clear x0 Y R x3 y0 Z U W z c0 H G
       obtain ⟨x0,Y,R,x3⟩:=cs4 J.out
       have Z:=aF (k:=1) V.out rfl
       have U:=aB J.out
       have W:=aB V.out
       go_wp2_with fail
       refine (HU.out _ HD.out).mono ?_
       rintro _ w6 ⟨UA,rfl,o6,b6⟩
       have aQ:=Hd (aA HD.out b6)
       obtain ⟨bu,ou,rfl,bh,ah⟩:=o6.ints.2 (by omega)
       have cu:=ah K am
       rw [jb _ am] at cu
       clear o6 b6 ah x0 Y R x3 Z U W c2 ci
       generalize cnt (kY l) (K:Int)=q at *
       have dq:(((q:Nat):Int)==1)=false:=by have:=HQ.out;simp;omega
       go_wp2_with fail
       go_ret
       exact ⟨aO I.out,aQ.out⟩
      have I:Hid (¬dQ l ⟨(A:Int),(F:Int)⟩):=fun h=>hy ((D.1 h).2.2.2.2 (by omega) (by omega)).1
      have dy:(y==(K:Int))=false:=by simp;exact hy
      clear D hk hy
      go_enter Tryz.func257,Tryz.ntmps257
      go_upto_region 1 with fail
      generalize (w.alloc (.cells (ak l (some ⟨bs,os,none⟩) LA OA sn sc ln lc on oc) 41)).alloc (.cells #[.int .i64 (A:Int),.int .i64 (F:Int)] 94)=B at *
      obtain ⟨x0,Y,R,x3⟩:=cs4 g.out
      obtain ⟨y0,Z⟩:=cs2 j.out
      have U:=aB g.out
      have W:=aB j.out
      go_wp2_with fail
      refine (aM (A:Int) (-1) ((ln:Int) - 1) _).mono ?_
      rw [H1.out]
      rintro _ w' ⟨rfl,rfl⟩
      go_wp2_with fail
      refine (aM (F:Int) (-1) ((sn:Int) - 1) _).mono ?_
      rw [H2.out]
      rintro _ w' ⟨rfl,rfl⟩
      go_upto_region 6 with fail
      have al:=Hd (fun (x:Sub B)=>kW l.inputs (some ⟨bs,os,none⟩) LA OA sn sc ln lc on oc x.v aH.1 (by omega) (by omega))
      have Q:=aX B
      have ao:=aP B
      refine wpB B ?_
      repeat (go_big_quiet_step ((first
       | (go_at_call 177;with_reducible exact aN (al.out _)))))
      refine wpQuiet_nil ?_
      rintro _ ⟨⟨w5,z⟩,rfl⟩
      clear Q ao
      rw [HK.out]
      have HD:=Hd (aA u.out z)
      have J:=Hd (aC z g.out)
      have V:=Hd (aC z j.out)
      have ay:=aK z H
      have az:=aK z G
      rw [←z.cell (p:=⟨bs,os+F * 3+2,none⟩) H] at c2
      rw [←z.cell (p:=⟨bi,oi,none⟩) G] at ci
      clear x0 Y R x3 y0 Z U W z c0 H G
      obtain ⟨x0,Y,R,x3⟩:=cs4 J.out
      have Z:=aF (k:=1) V.out rfl
      have U:=aB J.out
      have W:=aB V.out
      go_wp2_with fail
      go_ret
      exact ⟨aO I.out,HD.out⟩
     have I:Hid (dQ l ⟨a,(F:Int)⟩):=D.2 ⟨⟨by omega,by omega⟩,⟨by omega,by omega⟩,hn,fun _=>hk,fun h=>absurd h av⟩
     have d2:decide (a≥0)=false:=decide_eq_false av
     obtain rfl:a=-1:=by omega
     clear D hk aw aj hn av
     go_enter Tryz.func257,Tryz.ntmps257
     go_upto_region 1 with fail
     generalize (w.alloc (.cells (ak l (some ⟨bs,os,none⟩) LA OA sn sc ln lc on oc) 41)).alloc (.cells #[.int .i64 (-1),.int .i64 (F:Int)] 94)=B at *
     obtain ⟨-,Y,R⟩:=cs3 g.out
     obtain ⟨y0,Z⟩:=cs2 j.out
     have U:=aB g.out
     have W:=aB j.out
     go_wp2_with fail
     refine (aM (-1) (-1) ((ln:Int) - 1) _).mono ?_
     rw [H1.out]
     rintro _ w' ⟨rfl,rfl⟩
     go_wp2_with fail
     refine (aM (F:Int) (-1) ((sn:Int) - 1) _).mono ?_
     rw [H2.out]
     rintro _ w' ⟨rfl,rfl⟩
     go_wp2_with fail
     go_ret
     exact ⟨dU I.out,u.out⟩
    have bm:(s.kind != 0)=true:=by simp;exact hk
    have I:Hid (¬dQ l ⟨a,(F:Int)⟩):=fun h=>hk ((D.1 h).2.2.2.1 (by omega))
    clear D hk
    rcases aw with da|⟨da,_⟩
    ·clear aj
     go_enter Tryz.func257,Tryz.ntmps257
     go_upto_region 1 with fail
     generalize (w.alloc (.cells (ak l (some ⟨bs,os,none⟩) LA OA sn sc ln lc on oc) 41)).alloc (.cells #[.int .i64 a,.int .i64 (F:Int)] 94)=B at *
     obtain ⟨-,Y,R⟩:=cs3 g.out
     obtain ⟨y0,Z⟩:=cs2 j.out
     have U:=aB g.out
     have W:=aB j.out
     go_wp2_with fail
     refine (aM a (-1) ((ln:Int) - 1) _).mono ?_
     rw [H1.out]
     rintro _ w' ⟨rfl,rfl⟩
     go_wp2_with fail
     refine (aM (F:Int) (-1) ((sn:Int) - 1) _).mono ?_
     rw [H2.out]
     rintro _ w' ⟨rfl,rfl⟩
     go_wp2_with fail
     go_ret
     exact ⟨aO I.out,u.out⟩
    clear aj
    go_enter Tryz.func257,Tryz.ntmps257
    go_upto_region 1 with fail
    generalize (w.alloc (.cells (ak l (some ⟨bs,os,none⟩) LA OA sn sc ln lc on oc) 41)).alloc (.cells #[.int .i64 a,.int .i64 (F:Int)] 94)=B at *
    obtain ⟨-,Y,R⟩:=cs3 g.out
    obtain ⟨y0,Z⟩:=cs2 j.out
    have U:=aB g.out
    have W:=aB j.out
    go_wp2_with fail
    refine (aM a (-1) ((ln:Int) - 1) _).mono ?_
    rw [H1.out]
    rintro _ w' ⟨rfl,rfl⟩
    go_wp2_with fail
    refine (aM (F:Int) (-1) ((sn:Int) - 1) _).mono ?_
    rw [H2.out]
    rintro _ w' ⟨rfl,rfl⟩
    go_wp2_with fail
    go_ret
    exact ⟨aO I.out,u.out⟩
   have d1:decide (b≥0)=false:=decide_eq_false aV
   obtain rfl:b=-1:=by omega
   have da:(a==-1)=false:=by simp;omega
   have I:Hid (dQ l ⟨a,-1⟩):=D.2 ⟨⟨by omega,by omega⟩,⟨by omega,by omega⟩,hn,fun h=>by omega,fun _ h=>by omega⟩
   have d2:decide (a≥0)=true:=decide_eq_true (by omega)
   clear D hn aV aw aj
   go_enter Tryz.func257,Tryz.ntmps257
   go_upto_region 1 with fail
   generalize (w.alloc (.cells (ak l SA LA OA sn sc ln lc on oc) 41)).alloc (.cells #[.int .i64 a,.int .i64 (-1)] 94)=B at *
   obtain ⟨-,Y,R⟩:=cs3 g.out
   obtain ⟨y0,Z⟩:=cs2 j.out
   have U:=aB g.out
   have W:=aB j.out
   go_wp2_with fail
   refine (aM a (-1) ((ln:Int) - 1) _).mono ?_
   rw [H1.out]
   rintro _ w' ⟨rfl,rfl⟩
   go_wp2_with fail
   refine (aM (-1) (-1) ((sn:Int) - 1) _).mono ?_
   rw [H2.out]
   rintro _ w' ⟨rfl,rfl⟩
   go_wp2_with fail
   go_ret
   exact ⟨dU I.out,u.out⟩
theorem oN {l:ai} {it:Int} {es:List LeT}:dY l ⟨0,it,es⟩↔0<=it/\it<l.inputs:=by simp [dY]
theorem oO {l:ai} {it:Int} {es:List LeT}:dY l ⟨1,it,es⟩↔0<=it/\it<(l.outs.length:Int):=by simp [dY]
theorem il {l:ai} {it:Int} {es:List LeT}:dY l ⟨2,it,es⟩↔0<=it/\it<(l.seqs.length:Int):=by simp [dY]
theorem kF {l:ai} {it:Int} {es:List LeT}:dY l ⟨3,it,es⟩↔∀e∈es,dQ l e:=by simp [dY]
theorem jJ {l:ai} {kd it:Int} {es:List LeT} (h:dY l ⟨kd,it,es⟩):kd=0∨kd=1∨kd=2∨kd=3:=by
 rcases h with h|h|h|h
 ·exact .inl h.1
 ·exact .inr (.inl h.1)
 ·exact .inr (.inr (.inl h.1))
 exact .inr (.inr (.inr h.1))
theorem yP (l : ai) (SA LA OA : Option Addr) (sn sc ln lc on oc : Nat) (a b : Int) (w : World) (h : fo w l SA LA OA sn sc ln lc on oc) (hf : bA l) (he : dQ l ⟨a, b⟩) :
    Calls Tryz.prog 214 #[jI l SA LA OA sn sc ln lc on oc, .agg #[.int .i64 a, .int .i64 b]] w fun e w' => ∃ A n c, e = .returned (.slice A n c) /\ Own w.heap.size w' A n c (iB l ⟨a, b⟩) /\ Below w.heap.size w w' := by
  have j : iB l ⟨a, b⟩ = asc ((if 0 <= a then (l.luts[a.toNat]?.getD Lt.zero).ins else (l.seqs[b.toNat]?.getD Sq.zero).ins).filter fun x => decide (x ≠ 0)) := rfl
  obtain ⟨e1, e2, e3, _⟩ := nC.1 he
  have B := (qX hf he).1
  change (if 0 <= a then (l.luts[a.toNat]?.getD Lt.zero).ins else (l.seqs[b.toNat]?.getD Sq.zero).ins).length <= 4 at B
  have H := Hd (aD (aD (Below.refl w.heap.size w) (.cells (ak l SA LA OA sn sc ln lc on oc) 41)) (.cells #[.int .i64 a, .int .i64 b] 94))
  have q := bS (.cells #[.int .i64 a, .int .i64 b] 94) (aI w (.cells (ak l SA LA OA sn sc ln lc on oc) 41))
  have hy := aI (w.alloc (.cells (ak l SA LA OA sn sc ln lc on oc) 41)) (.cells #[.int .i64 a, .int .i64 b] 94)
  simp only [World.size_alloc] at hy
  have ae := Hd q
  have W := Hd hy
  clear q hy
  obtain ⟨ah, ag, z⟩ := h.lens
  have aM := hf.nseq
  have aS := hf.nlut
  have aJ := hf.nout
  have aW := hf.inp
  rw [ah] at aM
  rw [ag] at aS
  rw [z] at aJ
  have HN := Hd h
  have HF := Hd hf
  have az := Hd ah
  have ay := Hd ag
  have aY := Hd z
  have a4 : Hid ((l.first : Int) = 1 + l.inputs + (sn : Int)) := by show _ = _; unfold ai.first; omega
  have a1 : Hid ((l.count : Int) = 1 + l.inputs + (sn : Int) + (ln : Int)) := by show _ = _; unfold ai.count ai.first; omega
  clear h hf ah ag z
  by_cases h0 : 0 <= a
  · have d0 : decide (a ≥ 0) = true := decide_eq_true h0
    rw [if_pos h0] at j B
    obtain ⟨X, rfl⟩ : ∃ X : Nat, a = (X : Int) := ⟨a.toNat, by omega⟩
    rw [Int.toNat_natCast] at j B
    have hX : X < ln := by have := ay.out; omega
    obtain ⟨bb, ob, S, m, p, rfl, V, c0, c1, r2⟩ := HN.out.lt.lut' (k := X) (by rw [ay.out]; exact hX)
    have aL := aK H.out V
    rw [← H.out.cell (p := ⟨bb, ob + X * 2, none⟩) V] at c0
    have u := Hd r2.ints
    rw [r2.ints.1] at B
    have au := Hd j
    clear c1 r2 j e1 e2 e3 he
    generalize (l.luts[X]?.getD Lt.zero).ins = src at *
    go_enter Tryz.func214, Tryz.ntmps214
    go_upto_region 1 with fail
    generalize (w.alloc (.cells (ak l SA (some ⟨bb, ob, none⟩) OA sn sc ln lc on oc) 41)).alloc (.cells #[.int .i64 (X : Int), .int .i64 b] 94) = W9 at *
    have x2 := aF (k := 2) ae.out rfl
    have y0 := aF (k := 0) W.out rfl
    have lx := aB ae.out
    have ly := aB W.out
    go_wp2_with fail
    clear x2 y0 lx ly c0
    go_loopw [6, 28] (fun v i wr => ∃ (k : Nat) (U : Option Addr) (G R : Nat), k <= m /\ i = .int .i64 k /\ v = .slice U G R /\ Own w.heap.size wr U G R (asc ((src.take k).filter fun x => decide (x ≠ 0))) /\ Below w.heap.size w wr) (fun _ i _ => m - (intOf i).toNat)
    case atStart => exact ⟨0, _, _, _, Nat.zero_le _, rfl, rfl, Own.nil, H.out⟩
    obtain ⟨k, U, G, R, hk, rfl, rfl, ho, hb⟩ := hrel
    have HO := Hd ho
    have g := Hd hb
    have z := ho.len
    clear ho hb
    by_cases I : k < m
    · have aq : decide ((k : Int) < (m : Int)) = true := by simp; omega
      obtain ⟨bs, os, rfl, Q, J⟩ := u.out.2 (by omega)
      have ao := (g.out.cell (p := ⟨bs, os + k, none⟩) Q).trans (J k I)
      have ar := aK g.out Q
      have K : k < src.length := by rw [u.out.1]; exact I
      have hg := mD (fun x => decide (x ≠ 0)) (src.take k) (src[k]?.getD 0)
      rw [← bN K] at hg
      have HG := Hd hg
      have am := jQ ((src.take k).filter fun x => decide (x ≠ 0))
      have Z := List.length_filter_le (fun x => decide (x ≠ 0)) (src.take k)
      rw [List.length_take] at Z
      have aO : G <= 4 := by omega
      clear hg J am Z z K
      generalize asc ((src.take k).filter fun x => decide (x ≠ 0)) = ys at *
      generalize src[k]?.getD 0 = x at *
      have i0 : (0 : Int) <= (k : Int) := by omega
      have i1 : (k : Int) < (m : Int) := by omega
      by_cases q : x = 0
      · have D : Hid (asc ((src.take (k + 1)).filter fun x => decide (x ≠ 0)) = ys) := by show _ = _; rw [HG.out, q]; rfl
        have dx : (x != 0) = false := by simp [q]
        clear HG q
        go_wp2_with fail
        go_roundw
        case rel => exact ⟨k + 1, _, _, _, by omega, by go_num, rfl, by rw [D.out]; exact HO.out, g.out⟩
        case measure => simp [intOf]; omega
      have D : Hid (asc ((src.take (k + 1)).filter fun x => decide (x ≠ 0)) = ins ys x) := by show _ = _; rw [HG.out]; simp [q]
      have dx : (x != 0) = true := by simp [q]
      clear HG q
      go_wp2_with fail
      refine (jR w.heap.size U G R ys x _ HO.out g.out.size (by omega)).mono ?_
      rintro _ w1 ⟨A2, n2, c2, rfl, o2, b2⟩
      have ap := Hd o2
      have al := Hd (aA g.out b2)
      clear o2 b2 ao ar
      go_wp2_with fail
      go_roundw
      case rel => exact ⟨k + 1, _, _, _, by omega, by go_num, rfl, by rw [D.out]; exact ap.out, al.out⟩
      case measure => simp [intOf]; omega
    have Y : k = m := by omega
    have aq : decide ((k : Int) < (m : Int)) = false := by simp; omega
    have HD : Hid (Own w.heap.size wr U G R (asc (src.filter fun x => decide (x ≠ 0)))) := by
      have h := HO.out
      rwa [Y, List.take_of_length_le (by rw [u.out.1]; exact Nat.le_refl _)] at h
    clear HO Y
    go_wp2_with fail
    go_ret
    exact ⟨_, _, _, rfl, by rw [au.out]; exact HD.out, g.out⟩
  have d0 : decide (a ≥ 0) = false := decide_eq_false h0
  rw [if_neg h0] at j B
  obtain ⟨X, rfl⟩ : ∃ X : Nat, b = (X : Int) := ⟨b.toNat, by omega⟩
  rw [Int.toNat_natCast] at j B
  have hX : X < sn := by have := az.out; omega
  obtain ⟨bb, ob, S, m, p, rfl, V, c0, c1, c2, r2⟩ := HN.out.sq.sq' (k := X) (by rw [az.out]; exact hX)
  have aL := aK H.out V
  rw [← H.out.cell (p := ⟨bb, ob + X * 3 + 2, none⟩) V] at c2
  have u := Hd r2.ints
  rw [r2.ints.1] at B
  have au := Hd j
  clear c0 c1 r2 j e1 e2 e3 he
  generalize (l.seqs[X]?.getD Sq.zero).ins = src at *
  go_enter Tryz.func214, Tryz.ntmps214
  go_upto_region 1 with fail
  generalize (w.alloc (.cells (ak l (some ⟨bb, ob, none⟩) LA OA sn sc ln lc on oc) 41)).alloc (.cells #[.int .i64 a, .int .i64 (X : Int)] 94) = W9 at *
  have x1 := aF (k := 1) ae.out rfl
  have y0 := aF (k := 0) W.out rfl
  have y1 := aF (k := 1) W.out rfl
  have lx := aB ae.out
  have ly := aB W.out
  go_wp2_with fail
  clear x1 y0 y1 lx ly c2
  go_loopw [6, 28] (fun v i wr => ∃ (k : Nat) (U : Option Addr) (G R : Nat), k <= m /\ i = .int .i64 k /\ v = .slice U G R /\ Own w.heap.size wr U G R (asc ((src.take k).filter fun x => decide (x ≠ 0))) /\ Below w.heap.size w wr) (fun _ i _ => m - (intOf i).toNat)
  case atStart => exact ⟨0, _, _, _, Nat.zero_le _, rfl, rfl, Own.nil, H.out⟩
  obtain ⟨k, U, G, R, hk, rfl, rfl, ho, hb⟩ := hrel
  have HO := Hd ho
  have g := Hd hb
  have z := ho.len
  clear ho hb
  by_cases I : k < m
  · have aq : decide ((k : Int) < (m : Int)) = true := by simp; omega
    obtain ⟨bs, os, rfl, Q, J⟩ := u.out.2 (by omega)
    have ao := (g.out.cell (p := ⟨bs, os + k, none⟩) Q).trans (J k I)
    have ar := aK g.out Q
    have K : k < src.length := by rw [u.out.1]; exact I
    have hg := mD (fun x => decide (x ≠ 0)) (src.take k) (src[k]?.getD 0)
    rw [← bN K] at hg
    have HG := Hd hg
    have am := jQ ((src.take k).filter fun x => decide (x ≠ 0))
    have Z := List.length_filter_le (fun x => decide (x ≠ 0)) (src.take k)
    rw [List.length_take] at Z
    have aO : G <= 4 := by omega
    clear hg J am Z z K
    generalize asc ((src.take k).filter fun x => decide (x ≠ 0)) = ys at *
    generalize src[k]?.getD 0 = x at *
    have i0 : (0 : Int) <= (k : Int) := by omega
    have i1 : (k : Int) < (m : Int) := by omega
    by_cases q : x = 0
    · have D : Hid (asc ((src.take (k + 1)).filter fun x => decide (x ≠ 0)) = ys) := by show _ = _; rw [HG.out, q]; rfl
      have dx : (x != 0) = false := by simp [q]
      clear HG q
      go_wp2_with fail
      go_roundw
      case rel => exact ⟨k + 1, _, _, _, by omega, by go_num, rfl, by rw [D.out]; exact HO.out, g.out⟩
      case measure => simp [intOf]; omega
    have D : Hid (asc ((src.take (k + 1)).filter fun x => decide (x ≠ 0)) = ins ys x) := by show _ = _; rw [HG.out]; simp [q]
    have dx : (x != 0) = true := by simp [q]
    clear HG q
    go_wp2_with fail
    refine (jR w.heap.size U G R ys x _ HO.out g.out.size (by omega)).mono ?_
    rintro _ w1 ⟨A2, n2, c2, rfl, o2, b2⟩
    have ap := Hd o2
    have al := Hd (aA g.out b2)
    clear o2 b2 ao ar
    go_wp2_with fail
    go_roundw
    case rel => exact ⟨k + 1, _, _, _, by omega, by go_num, rfl, by rw [D.out]; exact ap.out, al.out⟩
    case measure => simp [intOf]; omega
  have Y : k = m := by omega
  have aq : decide ((k : Int) < (m : Int)) = false := by simp; omega
  have HD : Hid (Own w.heap.size wr U G R (asc (src.filter fun x => decide (x ≠ 0)))) := by
    have h := HO.out
    rwa [Y, List.take_of_length_le (by rw [u.out.1]; exact Nat.le_refl _)] at h
  clear HO Y
  go_wp2_with fail
  go_ret
  exact ⟨_, _, _, rfl, by rw [au.out]; exact HD.out, g.out⟩
theorem yQ (l:ai) (SA LA OA:Option Addr) (sn sc ln lc on oc:Nat) (kd it:Int) (es:List LeT) (D:Option Addr) (q G:Nat) (w:World) (h:fo w l SA LA OA sn sc ln lc on oc) (hf:bA l) (hE:RdC w w.heap.size (cO es) (.slice D q G)) (hK:dY l ⟨kd,it,es⟩) (bk:q<=1048576) :
  Calls Tryz.prog 126 #[jI l SA LA OA sn sc ln lc on oc,.agg #[.int .i64 kd,.int .i64 it,.slice D q G]] w fun e w'=>∃A n c,e = .returned (.slice A n c)/\Own w.heap.size w' A n c (jy l ⟨kd,it,es⟩)/\Below w.heap.size w w':=by
 have aM:=hE.esN
 obtain ⟨HE,ae⟩:=hd2 hE aM
 clear hE
 have g:=Hd (aD (aD (Below.refl w.heap.size w) (.cells (ak l SA LA OA sn sc ln lc on oc) 41)) (.cells #[.int .i64 kd,.int .i64 it,.slice D q G] 89))
 have hx:=bS (.cells #[.int .i64 kd,.int .i64 it,.slice D q G] 89) (aI w (.cells (ak l SA LA OA sn sc ln lc on oc) 41))
 have hy:=aI (w.alloc (.cells (ak l SA LA OA sn sc ln lc on oc) 41)) (.cells #[.int .i64 kd,.int .i64 it,.slice D q G] 89)
 simp only [World.size_alloc] at hy
 obtain ⟨j,u⟩:=hd2 hx hy
 clear hx hy
 obtain ⟨Q,J,R⟩:=h.lens
 have az:=hf.nseq
 have aP:=hf.nlut
 have aw:=hf.nout
 have a0:=hf.inp
 rw [Q] at az
 rw [J] at aP
 rw [R] at aw
 obtain ⟨HN,HF,aN,bf,a2⟩:=hd5 h hf Q J R
 have bh:Hid ((l.first:Int)=1+l.inputs+(sn:Int)):=by show _=_;unfold ai.first;omega
 have a4:Hid ((l.count:Int)=1+l.inputs+(sn:Int)+(ln:Int)):=by show _=_;unfold ai.count ai.first;omega
 clear h hf Q J R
 by_cases k0:kd=0
 ·subst k0
  have K:Hid (jy l ⟨0,it,es⟩=[1+it]):=rfl
  have aL:0<=it/\it<l.inputs:=oN.1 hK
  go_enter Tryz.func126,Tryz.ntmps126
  go_upto_region 1 with fail
  generalize (w.alloc (.cells (ak l SA LA OA sn sc ln lc on oc) 41)).alloc (.cells #[.int .i64 0,.int .i64 it,.slice D q G] 89)=I at *
  have V:=aF (k:=0) j.out rfl
  obtain ⟨y0,y1⟩:=cs2 u.out
  have W:=aB j.out
  have ly:=aB u.out
  go_wp2_with fail
  go_ret
  refine ⟨_,_,_,rfl,?_,aA g.out (aD (Below.refl _ _) _)⟩
  rw [K.out]
  exact Own.made (cur:=#[.int .i64 (1+it)]) (aI I _) g.out.size (by unfold maxLen;omega) rfl rfl
 by_cases k1:kd=1
 ·subst k1
  have K:Hid (jy l ⟨1,it,es⟩=[]):=rfl
  go_enter Tryz.func126,Tryz.ntmps126
  go_upto_region 1 with fail
  generalize (w.alloc (.cells (ak l SA LA OA sn sc ln lc on oc) 41)).alloc (.cells #[.int .i64 1,.int .i64 it,.slice D q G] 89)=I at *
  have V:=aF (k:=0) j.out rfl
  obtain ⟨y0,y1⟩:=cs2 u.out
  have W:=aB j.out
  have ly:=aB u.out
  go_wp2_with fail
  go_ret
  exact ⟨_,_,_,rfl,by rw [K.out];exact Own.nil,g.out⟩
 by_cases k2:kd=2
 ·subst k2
  have K:Hid (jy l ⟨2,it,es⟩=[1+l.inputs+it]):=rfl
  have aL:0<=it/\it<(sn:Int):=by rw [←aN.out];exact il.1 hK
  go_enter Tryz.func126,Tryz.ntmps126
  go_upto_region 1 with fail
  generalize (w.alloc (.cells (ak l SA LA OA sn sc ln lc on oc) 41)).alloc (.cells #[.int .i64 2,.int .i64 it,.slice D q G] 89)=I at *
  have V:=aF (k:=0) j.out rfl
  obtain ⟨y0,y1⟩:=cs2 u.out
  have W:=aB j.out
  have ly:=aB u.out
  go_wp2_with fail
  go_ret
  refine ⟨_,_,_,rfl,?_,aA g.out (aD (Below.refl _ _) _)⟩
  rw [K.out]
  exact Own.made (cur:=#[.int .i64 (1+l.inputs+it)]) (aI I _) g.out.size (by unfold maxLen;omega) rfl rfl
 have k3:kd=3:=by have:=jJ hK;omega
 subst k3
 clear k0 k1 k2
 have K:Hid (jy l ⟨3,it,es⟩=es.map (cZ l)):=rfl
 have ay:Hid (∀e∈es,dQ l e):=kF.1 hK
 clear hK
 have av:=j
 go_enter Tryz.func126,Tryz.ntmps126
 go_upto_region 1 with fail
 generalize (w.alloc (.cells (ak l SA LA OA sn sc ln lc on oc) 41)).alloc (.cells #[.int .i64 3,.int .i64 it,.slice D q G] 89)=I at *
 have V:=aF (k:=0) j.out rfl
 obtain ⟨y0,y1,y2⟩:=cs3 u.out
 have W:=aB j.out
 have ly:=aB u.out
 go_wp2_with fail
 clear V y0 y1 y2 W ly
 go_loopw [5,30] (fun v i wr=>∃(k:Nat) (A':Option Addr) (c':Nat),k<=q/\i = .int .i64 k/\v = .slice A' k c'/\aJ I wr [.cel (aG ((es.take k).map (cZ l))) (.slice A' k c')]) (fun _ i _=>q - (intOf i).toNat)
 ·exact ⟨0,none,0,Nat.zero_le _,rfl,rfl,(aJ.refl I).pushNil 3 1⟩
 obtain ⟨k,A',c',hk,rfl,rfl,hs⟩:=hrel
 have Z:=Hd hs
 clear hs
 by_cases au:k<q
 ·have aO:=dT (by omega:k<q)
  have B:k<es.length:=by rw [ae.out];exact au
  obtain ⟨be,oe,rfl,U,c0,c1⟩:=HE.out.es (k:=k) B
  have H:=aA g.out Z.out.bel
  have bg:=aK H U
  rw [←H.cell (p:=⟨be,oe+k * 2,none⟩) U] at c0
  rw [←H.cell (p:=⟨be,oe+k * 2+1,none⟩) U] at c1
  clear H
  have al:=Hd (ay.out _ (List.getElem_mem B))
  have ar:Hid ((es.take (k+1)).map (cZ l)=(es.take k).map (cZ l)++[cZ l ⟨(es[k]?.getD LeT.zero).lut,(es[k]?.getD LeT.zero).ff⟩]):=by show _=_;rw [bN (z:=LeT.zero) B,List.map_append];rfl
  rw [show es[k]=es[k]?.getD LeT.zero by rw [List.getElem?_eq_getElem B];rfl] at al
  clear B
  generalize es[k]?.getD LeT.zero=e at *
  have hx:=aC (aD (Below.refl wr.heap.size wr) (.cells #[.int .i64 e.lut,.int .i64 e.ff] 94)) (aC Z.out.bel av.out)
  obtain ⟨V,x1,x2,x3,W⟩:=bX hx
  have hq:=aI wr (.cells #[.int .i64 e.lut,.int .i64 e.ff] 94)
  obtain ⟨q0,q1,lq⟩:=fZ hq
  obtain ⟨i0,i1⟩:=ib (by omega:k<q)
  have af:=Hd (Z.out.alloc (.cells #[.int .i64 e.lut,.int .i64 e.ff] 94))
  clear hx hq
  go_wp2_with fail
  refine (qE l SA LA OA sn sc ln lc on oc e.lut e.ff _ (HN.out.below (aA g.out af.out.bel)) HF.out al.out).mono ?_
  rintro _ w1 ⟨rfl,b1⟩
  have aE:=Hd (af.out.below b1)
  clear b1 V x1 x2 x3 W q0 q1 lq c0 c1
  generalize cZ l ⟨e.lut,e.ff⟩=Y at *
  go_wp2_with (at_builtin;refine dW rfl _ _ rfl _ (aE.out.alloc _) 0 A' k c' ((es.take k).map (cZ l)) Y _ (0,0) rfl rfl rfl (aI _ _) (by omega) ?_;intro g9 bj w9 S9 aR;have ax:=Hd S9;clear S9 aR)
  go_roundw
  ·exact ⟨k+1,_,_,by omega,by go_num,rfl,by rw [ar.out];exact ax.out⟩
  simp [intOf];omega
 have am:k=q:=by omega
 have aO:=dF (by omega:q<=k)
 have HD:Hid (aJ I wr [.cel (aG (es.map (cZ l))) (.slice A' q c')]):=by
  have h:=Z.out
  rwa [am,List.take_of_length_le (by rw [ae.out];exact Nat.le_refl _)] at h
 subst am
 clear Z
 go_wp2_with fail
 go_ret
 exact ⟨_,_,_,rfl,by rw [K.out];exact (HD.out.owned 0 rfl).more g.out.size,aA g.out HD.out.bel⟩
theorem mU (l : ai) (SA LA OA : Option Addr) (sn sc ln lc on oc : Nat) (kd it : Int) (es : List LeT) (EA : Option Addr) (u ec : Nat) (w : World) (h : fo w l SA LA OA sn sc ln lc on oc) (hf : bA l) (hE : RdC w w.heap.size (cO es) (.slice EA u ec)) (hK : dY l ⟨kd, it, es⟩) (cs : u <= 100000) :
    Calls Tryz.prog 125 #[jI l SA LA OA sn sc ln lc on oc, .agg #[.int .i64 kd, .int .i64 it, .slice EA u ec]] w fun e w' => ∃ A n c, e = .returned (.slice A n c) /\ Own w.heap.size w' A n c (iy l ⟨kd, it, es⟩) /\ Below w.heap.size w w' := by
  have bL := hE.esN
  have HE := Hd hE
  have Z := Hd bL
  clear hE
  have q := Hd (aD (aD (Below.refl w.heap.size w) (.cells (ak l SA LA OA sn sc ln lc on oc) 41)) (.cells #[.int .i64 kd, .int .i64 it, .slice EA u ec] 89))
  have B := bS (.cells #[.int .i64 kd, .int .i64 it, .slice EA u ec] 89) (aI w (.cells (ak l SA LA OA sn sc ln lc on oc) 41))
  have hy := aI (w.alloc (.cells (ak l SA LA OA sn sc ln lc on oc) 41)) (.cells #[.int .i64 kd, .int .i64 it, .slice EA u ec] 89)
  simp only [World.size_alloc] at hy
  have G := Hd B
  have g := Hd hy
  clear B hy
  obtain ⟨ar, aq, U⟩ := h.lens
  have bD := hf.nseq
  have bR := hf.nlut
  have bu := hf.nout
  have ce := hf.inp
  rw [ar] at bD
  rw [aq] at bR
  rw [U] at bu
  have HN := Hd h
  have HF := Hd hf
  have aM := Hd ar
  have cl := Hd aq
  have bp := Hd U
  have cm : Hid ((l.first : Int) = 1 + l.inputs + (sn : Int)) := by show _ = _; unfold ai.first; omega
  have cg : Hid ((l.count : Int) = 1 + l.inputs + (sn : Int) + (ln : Int)) := by show _ = _; unfold ai.count ai.first; omega
  clear h hf ar aq U
  by_cases k0 : kd = 0
  · subst k0
    have HR : Hid (iy l ⟨0, it, es⟩ = []) := rfl
    go_enter Tryz.func125, Tryz.ntmps125
    go_upto_region 1 with fail
    generalize (w.alloc (.cells (ak l SA LA OA sn sc ln lc on oc) 41)).alloc (.cells #[.int .i64 0, .int .i64 it, .slice EA u ec] 89) = W9 at *
    have x0 := aF (k := 0) G.out rfl
    have y0 := aF (k := 0) g.out rfl
    have y1 := aF (k := 1) g.out rfl
    have lx := aB G.out
    have ly := aB g.out
    go_wp2_with fail
    go_ret
    exact ⟨_, _, _, rfl, by rw [HR.out]; exact Own.nil, q.out⟩
  by_cases k1 : kd = 1
  · subst k1
    have HR : Hid (iy l ⟨1, it, es⟩ = [l.outs[it.toNat]?.getD 0]) := rfl
    have aL := oO.1 hK
    rw [bp.out] at aL
    obtain ⟨X, rfl⟩ : ∃ X : Nat, it = (X : Int) := ⟨it.toNat, by omega⟩
    rw [Int.toNat_natCast] at HR
    have hX : X < on := by omega
    obtain ⟨bo, oo, rfl, a0, a7⟩ := HN.out.ou.ints.2 (by omega)
    have co := a7 X hX
    have ck := aK q.out a0
    rw [← q.out.cell (p := ⟨bo, oo + X, none⟩) a0] at co
    clear a7 hK
    generalize l.outs[X]?.getD 0 = y at *
    go_enter Tryz.func125, Tryz.ntmps125
    go_upto_region 1 with fail
    generalize (w.alloc (.cells (ak l SA LA (some ⟨bo, oo, none⟩) sn sc ln lc on oc) 41)).alloc (.cells #[.int .i64 1, .int .i64 (X : Int), .slice EA u ec] 89) = W9 at *
    have x3 := aF (k := 3) G.out rfl
    have y0 := aF (k := 0) g.out rfl
    have y1 := aF (k := 1) g.out rfl
    have lx := aB G.out
    have ly := aB g.out
    go_wp2_with fail
    go_ret
    refine ⟨_, _, _, rfl, ?_, aA q.out (aD (Below.refl _ _) _)⟩
    rw [HR.out]
    exact Own.made (cur := #[.int .i64 (y)]) (aI W9 _) q.out.size (by unfold maxLen; omega) rfl rfl
  by_cases k2 : kd = 2
  · subst k2
    have HR : Hid (iy l ⟨2, it, es⟩ = (l.seqs[it.toNat]?.getD Sq.zero).ins) := rfl
    have aL := il.1 hK
    rw [aM.out] at aL
    obtain ⟨X, rfl⟩ : ∃ X : Nat, it = (X : Int) := ⟨it.toNat, by omega⟩
    rw [Int.toNat_natCast] at HR
    have hX : X < sn := by omega
    obtain ⟨bb, ob, S, m, p, rfl, a2, c0, c1, c2, r2⟩ := HN.out.sq.sq' (k := X) (by rw [aM.out]; exact hX)
    have cf := aK q.out a2
    rw [← q.out.cell (p := ⟨bb, ob + X * 3 + 2, none⟩) a2] at c2
    have bY : m <= 4 := by
      have h1 := (HF.out.seqs X (by rw [aM.out]; exact hX)).1
      have h2 := r2.ints.1
      rcases h1 with h | h <;> omega
    have bm := Hd r2.ints
    clear c0 c1 r2 hK
    generalize (l.seqs[X]?.getD Sq.zero).ins = src at *
    go_enter Tryz.func125, Tryz.ntmps125
    go_upto_region 1 with fail
    generalize (w.alloc (.cells (ak l (some ⟨bb, ob, none⟩) LA OA sn sc ln lc on oc) 41)).alloc (.cells #[.int .i64 2, .int .i64 (X : Int), .slice EA u ec] 89) = W9 at *
    have x1 := aF (k := 1) G.out rfl
    have y0 := aF (k := 0) g.out rfl
    have y1 := aF (k := 1) g.out rfl
    have lx := aB G.out
    have ly := aB g.out
    go_wp2_with fail
    refine (yL S m p src _ (bm.out.below q.out) (by omega)).mono ?_
    rintro _ w1 ⟨A1, c1, rfl, o1, b1⟩
    have aH := Hd (o1.more q.out.size)
    have R := Hd (aA q.out b1)
    clear o1 b1
    go_wp2_with fail
    go_ret
    exact ⟨_, _, _, rfl, by rw [HR.out]; exact aH.out, R.out⟩
  have k3 : kd = 3 := by have := jJ hK; omega
  subst k3
  clear k0 k1 k2
  have HR : Hid (iy l ⟨3, it, es⟩ = fE l es) := rfl
  have az : Hid (∀ e ∈ es, dQ l e) := kF.1 hK
  clear hK
  have bt := G
  go_enter Tryz.func125, Tryz.ntmps125
  go_upto_region 1 with fail
  generalize (w.alloc (.cells (ak l SA LA OA sn sc ln lc on oc) 41)).alloc (.cells #[.int .i64 3, .int .i64 it, .slice EA u ec] 89) = W9 at *
  have x0 := aF (k := 0) G.out rfl
  have y0 := aF (k := 0) g.out rfl
  have y1 := aF (k := 1) g.out rfl
  have y2 := aF (k := 2) g.out rfl
  have lx := aB G.out
  have ly := aB g.out
  go_wp2_with fail
  clear x0 y0 y1 y2 lx ly
  go_loopw [5, 39] (fun v i wr => ∃ (k : Nat) (J : Option Addr) (I : Nat), k <= u /\ i = .int .i64 k /\ v = .slice J k I /\ aJ W9 wr [.cel (aG ((es.take k).map (cZ l))) (.slice J k I)]) (fun _ i _ => u - (intOf i).toNat)
  case atStart => exact ⟨0, none, 0, Nat.zero_le _, rfl, rfl, (aJ.refl W9).pushNil 3 1⟩
  obtain ⟨k, J, I, hk, rfl, rfl, hs⟩ := hrel
  have HS := Hd hs
  clear hs
  by_cases aw : k < u
  · have aO : decide ((k : Int) < (u : Int)) = true := by simp; omega
    have D : k < es.length := by rw [Z.out]; exact aw
    obtain ⟨be, oe, rfl, K, c0, c1⟩ := HE.out.es (k := k) D
    have aj := aA q.out HS.out.bel
    have bO := aK aj K
    rw [← aj.cell (p := ⟨be, oe + k * 2, none⟩) K] at c0
    rw [← aj.cell (p := ⟨be, oe + k * 2 + 1, none⟩) K] at c1
    clear aj
    have Q := Hd (az.out _ (List.getElem_mem D))
    have av : Hid ((es.take (k + 1)).map (cZ l) = (es.take k).map (cZ l) ++ [cZ l ⟨(es[k]?.getD LeT.zero).lut, (es[k]?.getD LeT.zero).ff⟩]) := by show _ = _; rw [bN (z := LeT.zero) D, List.map_append]; rfl
    rw [show es[k] = es[k]?.getD LeT.zero by rw [List.getElem?_eq_getElem D]; rfl] at Q
    clear D
    generalize es[k]?.getD LeT.zero = e at *
    have B := aC (aD (Below.refl wr.heap.size wr) (.cells #[.int .i64 e.lut, .int .i64 e.ff] 94)) (aC HS.out.bel bt.out)
    have x0 := aF (k := 0) B rfl
    have x1 := aF (k := 1) B rfl
    have x2 := aF (k := 2) B rfl
    have x3 := aF (k := 3) B rfl
    have lx := aB B
    have hq := aI wr (.cells #[.int .i64 e.lut, .int .i64 e.ff] 94)
    have q0 := aF (k := 0) hq rfl
    have q1 := aF (k := 1) hq rfl
    have lq := aB hq
    have i0 : (0 : Int) <= (k : Int) := by omega
    have i1 : (k : Int) < (u : Int) := by omega
    have aU := Hd (HS.out.alloc (.cells #[.int .i64 e.lut, .int .i64 e.ff] 94))
    clear B hq
    go_wp2_with fail
    refine (qE l SA LA OA sn sc ln lc on oc e.lut e.ff _ (HN.out.below (aA q.out aU.out.bel)) HF.out Q.out).mono ?_
    rintro _ w1 ⟨rfl, b1⟩
    have bH := Hd (aU.out.below b1)
    clear b1 x0 x1 x2 x3 lx q0 q1 lq c0 c1
    generalize cZ l ⟨e.lut, e.ff⟩ = Y at *
    go_wp2_with (at_builtin; refine dW rfl _ _ rfl _ (bH.out.alloc _) 0 J k I ((es.take k).map (cZ l)) Y _ (0, 0) rfl rfl rfl (aI _ _) (by omega) ?_; intro g9 cr w9 S9 bV; have bw := Hd S9; clear S9 bV)
    go_roundw
    case rel => exact ⟨k + 1, _, _, by omega, by go_num, rfl, by rw [av.out]; exact bw.out⟩
    case measure => simp [intOf]; omega
  have V : k = u := by omega
  have aO : decide ((k : Int) < (u : Int)) = false := by simp; omega
  have W : Hid (aJ W9 wr [.cel (aG (es.map (cZ l))) (.slice J u I)]) := by
    have h := HS.out
    rwa [V, List.take_of_length_le (by rw [Z.out]; exact Nat.le_refl _)] at h
  subst V
  clear HS
  have br := Hd W.out.bel
  have aE := Hd (aA q.out W.out.bel)
  have bM := Hd (W.out.ints 0 rfl)
  have y2 := aF (k := 2) (aC W.out.bel g.out) rfl
  have ly := aB (aC W.out.bel g.out)
  clear W
  obtain ⟨wo, rfl⟩ : ∃ y, y = wr := ⟨wr, rfl⟩
  obtain ⟨OB, rfl⟩ : ∃ x, x = J := ⟨J, rfl⟩
  obtain ⟨bF, rfl⟩ : ∃ x, x = I := ⟨I, rfl⟩
  obtain ⟨u, rfl⟩ : ∃ x, x = k := ⟨k, rfl⟩
  go_wp2_with fail
  clear y2 ly
  go_loopw [6, 53] (fun v i wr => ∃ (k : Nat) (J : Option Addr) (n' I : Nat), k <= u /\ i = .int .i64 k /\ v = .slice J n' I /\ Own w.heap.size wr J n' I (asc (((es.take k).flatMap (iB l)).filter fun x => decide (x ∉ es.map (cZ l)))) /\ Below wo.heap.size wo wr) (fun _ i _ => u - (intOf i).toNat)
  case atStart => exact ⟨0, _, _, _, Nat.zero_le _, rfl, rfl, Own.nil, Below.refl _ _⟩
  obtain ⟨k, J, n', I, hk, rfl, rfl, ho, hb⟩ := hrel
  have HO := Hd ho
  have aZ := Hd hb
  have hB := Hd (aA aE.out hb)
  clear ho hb
  by_cases aw : k < u
  · have aO : decide ((k : Int) < (u : Int)) = true := by simp; omega
    have D : k < es.length := by rw [Z.out]; exact aw
    obtain ⟨be, oe, rfl, K, c0, c1⟩ := HE.out.es (k := k) D
    have bO := aK hB.out K
    rw [← hB.out.cell (p := ⟨be, oe + k * 2, none⟩) K] at c0
    rw [← hB.out.cell (p := ⟨be, oe + k * 2 + 1, none⟩) K] at c1
    have Q := Hd (az.out _ (List.getElem_mem D))
    have av := Hd (show (es.take (k + 1)).flatMap (iB l) = (es.take k).flatMap (iB l) ++ iB l ⟨(es[k]?.getD LeT.zero).lut, (es[k]?.getD LeT.zero).ff⟩ from by rw [bN (z := LeT.zero) D, List.flatMap_append, List.flatMap_singleton])
    have bX : Hid (((es.take k).flatMap (iB l)).length <= 4 * k) := by
      show _ <= _
      have h := kX (f := iB l) (m := 4) (xs := es.take k) fun e he => (mW HF.out (az.out e (List.mem_of_mem_take he))).1
      rw [List.length_take] at h
      have h2 : min k es.length * 4 <= k * 4 := Nat.mul_le_mul_right 4 (Nat.min_le_left _ _)
      omega
    rw [show es[k] = es[k]?.getD LeT.zero by rw [List.getElem?_eq_getElem D]; rfl] at Q
    have bW := Hd (mW HF.out Q.out).1
    clear D
    generalize es[k]?.getD LeT.zero = e at *
    have B := aC (aD (Below.refl wr.heap.size wr) (.cells #[.int .i64 e.lut, .int .i64 e.ff] 94)) (aC (aA br.out aZ.out) G.out)
    have x0 := aF (k := 0) B rfl
    have x1 := aF (k := 1) B rfl
    have x2 := aF (k := 2) B rfl
    have x3 := aF (k := 3) B rfl
    have lx := aB B
    have hq := aI wr (.cells #[.int .i64 e.lut, .int .i64 e.ff] 94)
    have q0 := aF (k := 0) hq rfl
    have q1 := aF (k := 1) hq rfl
    have lq := aB hq
    have i0 : (0 : Int) <= (k : Int) := by omega
    have i1 : (k : Int) < (u : Int) := by omega
    have aW := Hd (aD aZ.out (.cells #[.int .i64 e.lut, .int .i64 e.ff] 94))
    have bx := Hd (HO.out.below (aD (Below.refl _ _) (.cells #[.int .i64 e.lut, .int .i64 e.ff] 94)))
    clear B hq
    go_wp2_with fail
    refine (yP l SA LA OA sn sc ln lc on oc e.lut e.ff _ (HN.out.below (aA aE.out aW.out)) HF.out Q.out).mono ?_
    rintro _ w1 ⟨IA, m, ic, rfl, oi, b1⟩
    have ah := Hd oi.ints
    have R := Hd (aA aW.out b1)
    have aH := Hd (bx.out.below b1)
    clear b1 oi x0 x1 x2 x3 lx q0 q1 lq c0 c1
    have bY : m <= 4 := by rw [← ah.out.1]; exact bW.out
    generalize iB l ⟨e.lut, e.ff⟩ = src at *
    generalize (es.take k).flatMap (iB l) = BS at *
    go_wp2_with fail
    go_loopw [6, 61] (fun v i wr => ∃ (j : Nat) (J : Option Addr) (n' I : Nat), j <= m /\ i = .int .i64 j /\ v = .slice J n' I /\ Own w.heap.size wr J n' I (asc ((BS ++ src.take j).filter fun x => decide (x ∉ es.map (cZ l)))) /\ Below w1.heap.size w1 wr) (fun _ i _ => m - (intOf i).toNat)
    case atStart => exact ⟨0, _, _, _, Nat.zero_le _, rfl, rfl, by rw [List.take_zero, List.append_nil]; exact aH.out, Below.refl _ _⟩
    obtain ⟨j, A3, n3, c3, hj, rfl, rfl, ho, hb⟩ := hrel
    have al := Hd ho
    have H := Hd hb
    have U := ho.len
    clear ho hb
    by_cases ao : j < m
    · have bl : decide ((j : Int) < (m : Int)) = true := by simp; omega
      obtain ⟨bs, os, rfl, a1, aX⟩ := ah.out.2 (by omega)
      have bP := (H.out.cell (p := ⟨bs, os + j, none⟩) a1).trans (aX j ao)
      have bT := aK H.out a1
      have a6 : j < src.length := by rw [ah.out.1]; exact ao
      have hg := mD (fun x => decide (x ∉ es.map (cZ l))) (BS ++ src.take j) (src[j]?.getD 0)
      rw [List.append_assoc, ← bN a6] at hg
      have HG := Hd hg
      have bI := jQ ((BS ++ src.take j).filter fun x => decide (x ∉ es.map (cZ l)))
      have a5 := List.length_filter_le (fun x => decide (x ∉ es.map (cZ l))) (BS ++ src.take j)
      rw [List.length_append, List.length_take] at a5
      have bn := bX.out
      have ch : n3 <= 1048576 := by omega
      clear hg aX bI a5 U a6 bn
      generalize asc ((BS ++ src.take j).filter fun x => decide (x ∉ es.map (cZ l))) = ys at *
      generalize src[j]?.getD 0 = x at *
      have i2 : (0 : Int) <= (j : Int) := by omega
      have i3 : (j : Int) < (m : Int) := by omega
      go_wp2_with fail
      refine (nE OB u bF (es.map (cZ l)) x _ (bM.out.below (aA R.out H.out)) (by omega)).mono ?_
      rintro _ w2 ⟨rfl, rfl⟩
      by_cases B : x ∈ es.map (cZ l)
      · have aN : Hid (asc ((BS ++ src.take (j + 1)).filter fun x => decide (x ∉ es.map (cZ l))) = ys) := by show _ = _; rw [HG.out, if_neg (by simp only [decide_eq_true_eq]; exact fun h => h B)]
        rw [decide_eq_true B]
        clear HG B
        go_wp2_with fail
        go_roundw
        case rel => exact ⟨j + 1, _, _, _, by omega, by go_num, rfl, by rw [aN.out]; exact al.out, H.out⟩
        case measure => simp [intOf]; omega
      have aN : Hid (asc ((BS ++ src.take (j + 1)).filter fun x => decide (x ∉ es.map (cZ l))) = ins ys x) := by show _ = _; rw [HG.out, if_pos (decide_eq_true B)]
      rw [decide_eq_false B]
      clear HG B
      go_wp2_with fail
      refine (jR w.heap.size A3 n3 c3 ys x _ al.out (by have h1 := R.out.size; have h2 := H.out.size; have h3 := aE.out.size; omega) (by omega)).mono ?_
      rintro _ w4 ⟨A2, n2, c2, rfl, o2, b2⟩
      have bQ := Hd o2
      have bB := Hd (aA H.out b2)
      clear o2 b2 bP bT
      go_wp2_with fail
      go_roundw
      case rel => exact ⟨j + 1, _, _, _, by omega, by go_num, rfl, by rw [aN.out]; exact bQ.out, bB.out⟩
      case measure => simp [intOf]; omega
    have a4 : j = m := by omega
    have bl : decide ((j : Int) < (m : Int)) = false := by simp; omega
    have W : Hid (Own w.heap.size wr A3 n3 c3 (asc (((es.take (k + 1)).flatMap (iB l)).filter fun x => decide (x ∉ es.map (cZ l))))) := by
      have h := al.out
      rw [av.out]
      rwa [a4, List.take_of_length_le (by rw [ah.out.1]; exact Nat.le_refl _)] at h
    clear al a4
    go_wp2_with fail
    go_roundw
    case rel => exact ⟨k + 1, _, _, _, by omega, by go_num, rfl, W.out, aA R.out H.out⟩
    case measure => simp [intOf]; omega
  have V : k = u := by omega
  have aO : decide ((k : Int) < (u : Int)) = false := by simp; omega
  have W : Hid (Own w.heap.size wr J n' I (fE l es)) := by
    have h := HO.out
    rwa [V, List.take_of_length_le (by rw [Z.out]; exact Nat.le_refl _)] at h
  clear HO V
  go_wp2_with fail
  go_ret
  exact ⟨_, _, _, rfl, by rw [HR.out]; exact W.out, hB.out⟩
end Go.Proofs.YtofihjoanjkdmaaGreat
