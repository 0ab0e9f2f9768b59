/- The program's counts of uses (printed by mkuse.py). -/
import Derived.Test.YtofihjoanjkdmaaGreatLayUP
import Derived.Test.YtofihjoanjkdmaaGreatRt4
namespace Go.Proofs.YtofihjoanjkdmaaGreat
set_option maxHeartbeats 4000000
set_option maxRecDepth 100000
open Go.RowKit
theorem qz (l:ai) (SA LA OA:Option Addr) (sn sc ln lc on oc:Nat) (w:World) (h:fI w l SA LA OA sn sc ln lc on oc) (hf:bB l) :
  Calls Tryz.prog 248 #[iD l SA LA OA sn sc ln lc on oc] w fun e w'=>∃A,e = .returned (.slice A l.count l.count)/\Own w.heap.size w' A l.count l.count (aG l.count (jS l))/\Below w.heap.size w w':=by
 have HB0:=Hd (aF (Below.refl w.heap.size w) (.cells (av l SA LA OA sn sc ln lc on oc) 41))
 have HBX:=Hd (aK w (.cells (av l SA LA OA sn sc ln lc on oc) 41))
 obtain ⟨hsl,hll,hol⟩:=h.lens
 have h1:=hf.nseq
 have h2:=hf.nlut
 have h3:=hf.nout
 have HIN:=Hd hf.inp
 have hin:=hf.inp
 have HN:=Hd h
 have HF:=Hd hf
 have HLL:=Hd hll
 have HSL:=Hd hsl
 have HOL:=Hd hol
 have hC:1+l.inputs+(sn:Int)+(ln:Int)=(l.count:Int):=by unfold ai.count ai.first;omega
 have HFC:Hid ((l.first:Int)+(ln:Int)=(l.count:Int)):=by show _=_;unfold ai.count;omega
 obtain ⟨C,hCC⟩:∃C,l.count=C:=⟨_,rfl⟩
 have HCC:=Hd hCC
 rw [hCC] at hC
 have hCb:C<=433:=by omega
 have hsn:sn<=12:=by omega
 have hln:ln<=400:=by omega
 have hon:on<=16:=by omega
 obtain ⟨i0,hi,hz0,hz1,hz2⟩:=info_parts jC
 have hmk:=fun W=>dB (P:=Tryz.prog) 26 3 i0 _ Tryz.underlying26 hi hz0 .i64 .i64 C C (Nat.le_refl _) (by rw [hz2];omega) (by omega) W
 rw [hz1,Nat.mul_one,show (Value.int .i64 0).cells=#[Value.int .i64 0] from rfl,oV] at hmk
 have HC:=Hd hC
 rw [hCC]
 clear h hf hsl hll hol h1 h2 h3 hCC hi hz0 hz1 hz2 hC
 go_enter Tryz.func248,Tryz.ntmps248
 go_wp2_with fail
 refine (oU l.inputs SA LA OA sn sc ln lc on oc _ (by omega) (by omega) (by omega) (by omega)).mono ?_
 rw [HC.out]
 rintro _ w1 ⟨rfl,b1⟩
 have HX1:=Hd (aD b1 HBX.out)
 have HW1:=Hd (aB HB0.out b1)
 have hs1:=(aM.refl w1).consOwn (aF (Below.refl _ _) (.cells (arr (List.replicate C 0)) 3)) (Own.arr (n:=C) (aK w1 _) (Nat.le_refl _) (by unfold maxLen;omega) (by simp))
 have HS1:=Hd (show aM w1 (w1.alloc (.cells (arr (List.replicate C 0)) 3)) [.cel (aJ (aG C ((l.luts.take 0).flatMap Lt.ins))) (.slice (some ⟨w1.heap.size,0,none⟩) C C)] from by
  rw [List.take_zero,List.flatMap_nil,mJ]
  exact hs1)
 have HX2:=Hd (aD hs1.bel HX1.out)
 clear b1 hs1 hin
 have hx:=HX2.out
 have x0:=aA (k:=0) hx rfl
 have x1:=aA (k:=1) hx rfl
 have x2:=aA (k:=2) hx rfl
 have x3:=aA (k:=3) hx rfl
 have lx:=aC hx
 have hgn:w.heap.size≠w1.heap.size:=by have:=aC HX1.out;omega
 clear hx
 go_wp2_with fail
 clear x0 x1 x2 x3 lx hmk
 go_loopw [20] (fun i wr=>∃k:Nat,k<=ln/\i = .int .i64 (k:Int)/\aM w1 wr [.cel (aJ (aG C ((l.luts.take k).flatMap Lt.ins))) (.slice (some ⟨w1.heap.size,0,none⟩) C C)]) (fun i _=>ln - (intOf i).toNat)
 case atStart=>exact ⟨0,by omega,rfl,HS1.out⟩
 case round =>
  obtain ⟨k,hk,rfl,hs⟩:=hrel
  have HSS:=Hd hs
  clear hs
  by_cases hlt:k<ln
  ·have hdk:decide ((k:Int)<(ln:Int))=true:=by simp;omega
   obtain ⟨b,o,S,m,p,hA,hbl,c0,c1,r2⟩:=HN.out.lt.lut' (k:=k) (by rw [HLL.out];exact hlt)
   have hbe:=aB HW1.out HSS.out.bel
   have lbl:=aL hbe hbl
   have c0:=(hbe.cell (p:=⟨b,o+k * 2,none⟩) hbl).trans c0
   have c1:=(hbe.cell (p:=⟨b,o+k * 2+1,none⟩) hbl).trans c1
   have HR2:=Hd r2
   have hkl:k<l.luts.length:=by rw [HLL.out];exact hlt
   have HSN:=Hd (show ((l.luts.take k).flatMap Lt.ins)++(l.luts[k]?.getD Lt.zero).ins=(l.luts.take (k+1)).flatMap Lt.ins from by rw [rE hkl])
   have HXB:Hid (∀n∈(l.luts[k]?.getD Lt.zero).ins,0<=n/\n<(C:Int)):=fun n hn=>by
    have h:=(HF.out.luts k hkl).2.2 n hn
    have h2:=HCC.out
    have h3:=HFC.out
    omega
   have HBS:Hid (((l.luts.take k).flatMap Lt.ins).length+(l.luts[k]?.getD Lt.zero).ins.length<=3000):=by
    show _<=_
    have h1:=congrArg List.length HSN.out
    rw [List.length_append] at h1
    have h2:=gu HF.out (k+1)
    have h3:=kI HF.out (k+1)
    have h4:=gu HF.out l.luts.length
    rw [List.take_length] at h4
    (try simp only [List.length_append] at h1 ⊢)
    omega
   subst hA
   clear r2 hkl
   generalize l.luts[k]?.getD Lt.zero=x at *
   generalize (l.luts.take k).flatMap Lt.ins=BS at *
   have HAL:=Hd (HSS.out.alloc (.cells #[.slice S m p,.int .i64 x.mask] 96))
   have i0:(0:Int)<=(k:Int):=by omega
   have i1:(k:Int)<(ln:Int):=by omega
   have y0:=aA (k:=0) (aK wr (.cells #[.slice S m p,.int .i64 x.mask] 96)) rfl
   have ly:=aC (aK wr (.cells #[.slice S m p,.int .i64 x.mask] 96))
   obtain ⟨wo,rfl⟩:∃y,y=wr:=⟨wr,rfl⟩
   go_wp2_with fail
   clear c0 c1 y0 ly
   go_loopw [27] (fun i wr=>∃j:Nat,j<=m/\i = .int .i64 (j:Int)/\aM w1 wr [.cel (aJ (aG C (jc (BS) (x.ins) j))) (.slice (some ⟨w1.heap.size,0,none⟩) C C)]) (fun i _=>m - (intOf i).toNat)
   case atStart=>exact ⟨0,by omega,rfl,by rw [kJ];exact HAL.out⟩
   case round =>
    obtain ⟨j,hj,rfl,hs⟩:=hrel
    have HSS:=Hd hs
    have HLU:=Hd (HR2.out.ints)
    by_cases hltj:j<m
    ·have hdj:decide ((j:Int)<(m:Int))=true:=by simp;omega
     obtain ⟨bt,ot,hA,hbt,hct⟩:=HLU.out.2 (by omega)
     have HA:=Hd hA
     have hck:=((aB HW1.out hs.bel).cell (p:=⟨bt,ot+j,none⟩) hbt).trans (hct j hltj)
     have lbt:=aL (aB HW1.out hs.bel) hbt
     have hjl:j<(x.ins).length:=by rw [HLU.out.1];exact hltj
     have hxb:=HXB.out _ (List.getElem_mem hjl)
     have hsn:=kL (bs:=BS) hjl
     rw [List.getElem?_eq_getElem hjl,Option.getD_some] at hck hsn
     have hlen:=lZ (BS) (x.ins) j
     have hbsl:=HBS.out
     have hxl:=HLU.out.1
     generalize (x.ins)[j]=x at *
     obtain ⟨X,rfl⟩:=Int.eq_ofNat_of_zero_le hxb.1
     have hXC:X<C:=by omega
     obtain ⟨cX,fX,lX,hN⟩:=lg hs hXC
     rw [hsn] at hN
     have hcl:=d9 (jc (BS) (x.ins) j) (X:Int)
     have HNS:=Hd hN
     clear hN hsn hct hs
     generalize cnt (jc (BS) (x.ins) j) (X:Int)=q at *
     have hq:q<=10000:=by omega
     have hjb:j<=10000:=by omega
     clear hcl hlen hbsl hxl hjl hxb
     have i0:(0:Int)<=(j:Int):=by omega
     have i1:(j:Int)<(m:Int):=by omega
     have i2:(0:Int)<=(X:Int):=by omega
     have i3:(X:Int)<(C:Int):=by omega
     subst hA
     go_wp2_with fail
     go_roundw
     case rel=>exact ⟨j+1,by omega,by go_num,HNS.out⟩
     case measure=>simp [intOf];omega
    ·have hjn:j=m:=by omega
     have hdj:decide ((j:Int)<(m:Int))=false:=by simp;omega
     have HD:=Hd (show aM w1 wr [.cel (aJ (aG C ((BS)++(x.ins)))) (.slice (some ⟨w1.heap.size,0,none⟩) C C)] from by rw [←kK HLU.out.1,←hjn];exact hs)
     clear hs HLU HSS hjn
     have HNX:=Hd (show aM w1 wr [.cel (aJ (aG C ((l.luts.take (k+1)).flatMap Lt.ins))) (.slice (some ⟨w1.heap.size,0,none⟩) C C)] from by rw [←HSN.out];exact HD.out)
     go_wp2_with fail
     go_roundw
     case rel=>exact ⟨k+1,by omega,by go_num,HNX.out⟩
     case measure=>simp [intOf];omega
  ·have hkn:k=ln:=by omega
   have hdk:decide ((k:Int)<(ln:Int))=false:=by simp;omega
   have HS2:=Hd (show aM w1 wr [.cel (aJ (aG C (l.luts.flatMap Lt.ins++(l.seqs.take 0).flatMap Sq.ins))) (.slice (some ⟨w1.heap.size,0,none⟩) C C)] from by
    have h:=HSS.out
    rw [hkn,←HLL.out,List.take_length] at h
    simpa using h)
   have hx:=aD HSS.out.bel HX1.out
   have x1:=aA (k:=1) hx rfl
   have lx:=aC hx
   clear hx hkn HSS
   obtain ⟨wo,rfl⟩:∃y,y=wr:=⟨wr,rfl⟩
   go_wp2_with fail
   clear x1 lx
   go_loopw [42] (fun i wr=>∃k:Nat,k<=sn/\i = .int .i64 (k:Int)/\aM w1 wr [.cel (aJ (aG C (l.luts.flatMap Lt.ins++(l.seqs.take k).flatMap Sq.ins))) (.slice (some ⟨w1.heap.size,0,none⟩) C C)]) (fun i _=>sn - (intOf i).toNat)
   case atStart=>exact ⟨0,by omega,rfl,HS2.out⟩
   case round =>
    obtain ⟨k,hk,rfl,hs⟩:=hrel
    have HSS:=Hd hs
    clear hs
    by_cases hlt:k<sn
    ·have hdk:decide ((k:Int)<(sn:Int))=true:=by simp;omega
     obtain ⟨b,o,S,m,p,hA,hbl,c0,c1,c2,r2⟩:=HN.out.sq.sq' (k:=k) (by rw [HSL.out];exact hlt)
     have hbe:=aB HW1.out HSS.out.bel
     have lbl:=aL hbe hbl
     have c0:=(hbe.cell (p:=⟨b,o+k * 3,none⟩) hbl).trans c0
     have c1:=(hbe.cell (p:=⟨b,o+k * 3+1,none⟩) hbl).trans c1
     have c2:=(hbe.cell (p:=⟨b,o+k * 3+2,none⟩) hbl).trans c2
     have HR2:=Hd r2
     have hkl:k<l.seqs.length:=by rw [HSL.out];exact hlt
     have HSN:=Hd (show (l.luts.flatMap Lt.ins++(l.seqs.take k).flatMap Sq.ins)++(l.seqs[k]?.getD Sq.zero).ins=l.luts.flatMap Lt.ins++(l.seqs.take (k+1)).flatMap Sq.ins from by rw [List.append_assoc,qB hkl])
     have HXB:Hid (∀n∈(l.seqs[k]?.getD Sq.zero).ins,0<=n/\n<(C:Int)):=fun n hn=>by
      have h:=(HF.out.seqs k hkl).2 n hn
      have h2:=HCC.out
      have h3:=HFC.out
      omega
     have HBS:Hid ((l.luts.flatMap Lt.ins++(l.seqs.take k).flatMap Sq.ins).length+(l.seqs[k]?.getD Sq.zero).ins.length<=3000):=by
      show _<=_
      have h1:=congrArg List.length HSN.out
      rw [List.length_append] at h1
      have h2:=gu HF.out (k+1)
      have h3:=kI HF.out (k+1)
      have h4:=gu HF.out l.luts.length
      rw [List.take_length] at h4
      (try simp only [List.length_append] at h1 ⊢)
      omega
     subst hA
     clear r2 hkl
     generalize l.seqs[k]?.getD Sq.zero=x at *
     generalize l.luts.flatMap Lt.ins++(l.seqs.take k).flatMap Sq.ins=BS at *
     have HAL:=Hd (HSS.out.alloc (.cells #[.int .i64 x.kind,.int .i64 x.init,.slice S m p] 91))
     have i0:(0:Int)<=(k:Int):=by omega
     have i1:(k:Int)<(sn:Int):=by omega
     have y2:=aA (k:=2) (aK wr (.cells #[.int .i64 x.kind,.int .i64 x.init,.slice S m p] 91)) rfl
     have ly:=aC (aK wr (.cells #[.int .i64 x.kind,.int .i64 x.init,.slice S m p] 91))
     obtain ⟨wo,rfl⟩:∃y,y=wr:=⟨wr,rfl⟩
     go_wp2_with fail
     clear c0 c1 c2 y2 ly
     go_loopw [49] (fun i wr=>∃j:Nat,j<=m/\i = .int .i64 (j:Int)/\aM w1 wr [.cel (aJ (aG C (jc (BS) (x.ins) j))) (.slice (some ⟨w1.heap.size,0,none⟩) C C)]) (fun i _=>m - (intOf i).toNat)
     case atStart=>exact ⟨0,by omega,rfl,by rw [kJ];exact HAL.out⟩
     case round =>
      obtain ⟨j,hj,rfl,hs⟩:=hrel
      have HSS:=Hd hs
      have HLU:=Hd (HR2.out.ints)
      by_cases hltj:j<m
      ·have hdj:decide ((j:Int)<(m:Int))=true:=by simp;omega
       obtain ⟨bt,ot,hA,hbt,hct⟩:=HLU.out.2 (by omega)
       have HA:=Hd hA
       have hck:=((aB HW1.out hs.bel).cell (p:=⟨bt,ot+j,none⟩) hbt).trans (hct j hltj)
       have lbt:=aL (aB HW1.out hs.bel) hbt
       have hjl:j<(x.ins).length:=by rw [HLU.out.1];exact hltj
       have hxb:=HXB.out _ (List.getElem_mem hjl)
       have hsn:=kL (bs:=BS) hjl
       rw [List.getElem?_eq_getElem hjl,Option.getD_some] at hck hsn
       have hlen:=lZ (BS) (x.ins) j
       have hbsl:=HBS.out
       have hxl:=HLU.out.1
       generalize (x.ins)[j]=x at *
       obtain ⟨X,rfl⟩:=Int.eq_ofNat_of_zero_le hxb.1
       have hXC:X<C:=by omega
       obtain ⟨cX,fX,lX,hN⟩:=lg hs hXC
       rw [hsn] at hN
       have hcl:=d9 (jc (BS) (x.ins) j) (X:Int)
       have HNS:=Hd hN
       clear hN hsn hct hs
       generalize cnt (jc (BS) (x.ins) j) (X:Int)=q at *
       have hq:q<=10000:=by omega
       have hjb:j<=10000:=by omega
       clear hcl hlen hbsl hxl hjl hxb
       have i0:(0:Int)<=(j:Int):=by omega
       have i1:(j:Int)<(m:Int):=by omega
       have i2:(0:Int)<=(X:Int):=by omega
       have i3:(X:Int)<(C:Int):=by omega
       subst hA
       go_wp2_with fail
       go_roundw
       case rel=>exact ⟨j+1,by omega,by go_num,HNS.out⟩
       case measure=>simp [intOf];omega
      ·have hjn:j=m:=by omega
       have hdj:decide ((j:Int)<(m:Int))=false:=by simp;omega
       have HD:=Hd (show aM w1 wr [.cel (aJ (aG C ((BS)++(x.ins)))) (.slice (some ⟨w1.heap.size,0,none⟩) C C)] from by rw [←kK HLU.out.1,←hjn];exact hs)
       clear hs HLU HSS hjn
       have HNX:=Hd (show aM w1 wr [.cel (aJ (aG C (l.luts.flatMap Lt.ins++(l.seqs.take (k+1)).flatMap Sq.ins))) (.slice (some ⟨w1.heap.size,0,none⟩) C C)] from by rw [←HSN.out];exact HD.out)
       go_wp2_with fail
       go_roundw
       case rel=>exact ⟨k+1,by omega,by go_num,HNX.out⟩
       case measure=>simp [intOf];omega
    ·have hkn:k=sn:=by omega
     have hdk:decide ((k:Int)<(sn:Int))=false:=by simp;omega
     have HS3:=Hd (show aM w1 wr [.cel (aJ (aG C (l.luts.flatMap Lt.ins++l.seqs.flatMap Sq.ins))) (.slice (some ⟨w1.heap.size,0,none⟩) C C)] from by
      have h:=HSS.out
      rwa [hkn,←HSL.out,List.take_length] at h)
     have hx:=aD HSS.out.bel HX1.out
     have x3:=aA (k:=3) hx rfl
     have lx:=aC hx
     clear hx hkn HSS
     have HXB:Hid (∀n∈l.outs,0<=n/\n<(C:Int)):=fun n hn=>by
      have h:=HF.out.outs n hn
      have h2:=HCC.out
      omega
     have HBS:Hid ((l.luts.flatMap Lt.ins++l.seqs.flatMap Sq.ins).length+l.outs.length<=3000):=by
      show _<=_
      have h3:=kI HF.out l.seqs.length
      have h4:=gu HF.out l.luts.length
      rw [List.take_length] at h3 h4
      have h5:=HF.out.nout
      rw [List.length_append]
      omega
     obtain ⟨wo,rfl⟩:∃y,y=wr:=⟨wr,rfl⟩
     go_wp2_with fail
     clear x3 lx
     go_loopw [64] (fun i wr=>∃j:Nat,j<=on/\i = .int .i64 (j:Int)/\aM w1 wr [.cel (aJ (aG C (jc (l.luts.flatMap Lt.ins++l.seqs.flatMap Sq.ins) (l.outs) j))) (.slice (some ⟨w1.heap.size,0,none⟩) C C)]) (fun i _=>on - (intOf i).toNat)
     case atStart=>exact ⟨0,by omega,rfl,by rw [kJ];exact HS3.out⟩
     case round =>
      obtain ⟨j,hj,rfl,hs⟩:=hrel
      have HSS:=Hd hs
      have HLU:=Hd (HN.out.ou.ints)
      by_cases hltj:j<on
      ·have hdj:decide ((j:Int)<(on:Int))=true:=by simp;omega
       obtain ⟨bt,ot,hA,hbt,hct⟩:=HLU.out.2 (by omega)
       have HA:=Hd hA
       have hck:=((aB HW1.out hs.bel).cell (p:=⟨bt,ot+j,none⟩) hbt).trans (hct j hltj)
       have lbt:=aL (aB HW1.out hs.bel) hbt
       have hjl:j<(l.outs).length:=by rw [HLU.out.1];exact hltj
       have hxb:=HXB.out _ (List.getElem_mem hjl)
       have hsn:=kL (bs:=l.luts.flatMap Lt.ins++l.seqs.flatMap Sq.ins) hjl
       rw [List.getElem?_eq_getElem hjl,Option.getD_some] at hck hsn
       have hlen:=lZ (l.luts.flatMap Lt.ins++l.seqs.flatMap Sq.ins) (l.outs) j
       have hbsl:=HBS.out
       have hxl:=HLU.out.1
       generalize (l.outs)[j]=x at *
       obtain ⟨X,rfl⟩:=Int.eq_ofNat_of_zero_le hxb.1
       have hXC:X<C:=by omega
       obtain ⟨cX,fX,lX,hN⟩:=lg hs hXC
       rw [hsn] at hN
       have hcl:=d9 (jc (l.luts.flatMap Lt.ins++l.seqs.flatMap Sq.ins) (l.outs) j) (X:Int)
       have HNS:=Hd hN
       clear hN hsn hct hs
       generalize cnt (jc (l.luts.flatMap Lt.ins++l.seqs.flatMap Sq.ins) (l.outs) j) (X:Int)=q at *
       have hq:q<=10000:=by omega
       have hjb:j<=10000:=by omega
       clear hcl hlen hbsl hxl hjl hxb
       have i0:(0:Int)<=(j:Int):=by omega
       have i1:(j:Int)<(on:Int):=by omega
       have i2:(0:Int)<=(X:Int):=by omega
       have i3:(X:Int)<(C:Int):=by omega
       subst hA
       go_wp2_with fail
       go_roundw
       case rel=>exact ⟨j+1,by omega,by go_num,HNS.out⟩
       case measure=>simp [intOf];omega
      ·have hjn:j=on:=by omega
       have hdj:decide ((j:Int)<(on:Int))=false:=by simp;omega
       have HD:=Hd (show aM w1 wr [.cel (aJ (aG C ((l.luts.flatMap Lt.ins++l.seqs.flatMap Sq.ins)++(l.outs)))) (.slice (some ⟨w1.heap.size,0,none⟩) C C)] from by rw [←kK HLU.out.1,←hjn];exact hs)
       clear hs HLU HSS hjn
       go_wp2_with fail
       go_ret
       exact ⟨_,rfl,(HD.out.owned 0 rfl).more (by have:=HW1.out.size;omega),aB HW1.out HD.out.bel⟩
theorem kR {l:ai} {a b:Int}:dM l ⟨a,b⟩↔(-1<=a/\a<(l.luts.length:Int))/\(-1<=b/\b<(l.seqs.length:Int))/\¬(a=-1/\b=-1)/\(0<=b→(l.seqs[b.toNat]?.getD Sq.zero).kind=0) /\
  (0<=a→0<=b→(l.seqs[b.toNat]?.getD Sq.zero).ins[0]?.getD 0=(l.first:Int)+a/\vQ l ((l.first:Int)+a)=1) :=
 ⟨fun h=>⟨h.lut,h.ff,h.one,h.flop,h.both⟩,fun h=>⟨h.1,h.2.1,h.2.2.1,h.2.2.2.1,h.2.2.2.2⟩⟩
theorem oN (l:ai) (SA LA OA:Option Addr) (sn sc ln lc on oc:Nat) (a b:Int) (w:World) (h:fI w l SA LA OA sn sc ln lc on oc) (hf:bB l) (he:dM l ⟨a,b⟩) :
  Calls Tryz.prog 142 #[iD l SA LA OA sn sc ln lc on oc,.agg #[.int .i64 a,.int .i64 b]] w fun e w'=>e = .returned (.int .i64 (dP l ⟨a,b⟩))/\Below w.heap.size w w':=by
 have hLO:dP l ⟨a,b⟩=if 0<=b then 1+l.inputs+b else (l.first:Int)+a:=rfl
 obtain ⟨e1,e2,e3,_⟩:=kR.1 he
 have hsl0:=h.lens.1
 have hll0:=h.lens.2.1
 rw [hsl0] at e2
 rw [hll0] at e1
 clear hsl0 hll0
 have HB0:=Hd (aF (aF (Below.refl w.heap.size w) (.cells (av l SA LA OA sn sc ln lc on oc) 41)) (.cells #[.int .i64 a,.int .i64 b] 94))
 have hx:=bg (.cells #[.int .i64 a,.int .i64 b] 94) (aK w (.cells (av l SA LA OA sn sc ln lc on oc) 41))
 have hy:=aK (w.alloc (.cells (av l SA LA OA sn sc ln lc on oc) 41)) (.cells #[.int .i64 a,.int .i64 b] 94)
 simp only [World.size_alloc] at hy
 have HXB:=Hd hx
 have HYB:=Hd hy
 clear hx hy
 obtain ⟨hsl,hll,hol⟩:=h.lens
 have hsn:=hf.nseq
 have hln:=hf.nlut
 have hon:=hf.nout
 have hin:=hf.inp
 rw [hsl] at hsn
 rw [hll] at hln
 rw [hol] at hon
 have HN:=Hd h
 have HF:=Hd hf
 have HSL:=Hd hsl
 have HLL:=Hd hll
 have HOL:=Hd hol
 have HFI:Hid ((l.first:Int)=1+l.inputs+(sn:Int)):=by show _=_;unfold ai.first;omega
 have HCO:Hid ((l.count:Int)=1+l.inputs+(sn:Int)+(ln:Int)):=by show _=_;unfold ai.count ai.first;omega
 clear h hf hsl hll hol
 by_cases h0:0<=b
 ·have d0:decide (b≥0)=true:=decide_eq_true h0
  rw [if_pos h0] at hLO
  have HLO:=Hd hLO
  clear hLO e1 e3
  go_enter Tryz.func142,Tryz.ntmps142
  go_upto_region 1 with fail
  generalize (w.alloc (.cells (av l SA LA OA sn sc ln lc on oc) 41)).alloc (.cells #[.int .i64 a,.int .i64 b] 94)=W9 at *
  have x0:=aA (k:=0) HXB.out rfl
  have y1:=aA (k:=1) HYB.out rfl
  have lx:=aC HXB.out
  have ly:=aC HYB.out
  go_wp2_with fail
  go_ret
  exact ⟨aQ HLO.out.symm,HB0.out⟩
 ·have d0:decide (b≥0)=false:=decide_eq_false h0
  rw [if_neg h0,HFI.out] at hLO
  have HLO:=Hd hLO
  have ha:0<=a:=by omega
  clear hLO e2 e3 h0
  go_enter Tryz.func142,Tryz.ntmps142
  go_upto_region 1 with fail
  generalize (w.alloc (.cells (av l SA LA OA sn sc ln lc on oc) 41)).alloc (.cells #[.int .i64 a,.int .i64 b] 94)=W9 at *
  have x0:=aA (k:=0) HXB.out rfl
  have x1:=aA (k:=1) HXB.out rfl
  have x2:=aA (k:=2) HXB.out rfl
  have x3:=aA (k:=3) HXB.out rfl
  have y0:=aA (k:=0) HYB.out rfl
  have y1:=aA (k:=1) HYB.out rfl
  have lx:=aC HXB.out
  have ly:=aC HYB.out
  go_upto_region 3 with fail
  have HFL:=Hd (fun (x:Sub W9)=>jR l.inputs SA LA OA sn sc ln lc on oc x.v hin.1 (by omega) (by omega))
  have hsub:=aZ W9
  have hsc:=aR W9
  refine aI W9 (by kernel_rfl) (by kernel_rfl) (Below.refl _ _) ?_
  repeat (go_big_quiet_step ((first
   | (go_at_call 177;with_reducible exact aO (HFL.out _)))))
  refine wpQuiet_nil ?_
  rintro _ ⟨⟨w5,hD⟩,rfl⟩
  clear hsub hsc
  have HD:=Hd (aB HB0.out hD)
  clear x0 x1 x2 x3 y0 y1 lx ly
  clear hD
  go_wp2_with fail
  go_ret
  exact ⟨aQ HLO.out.symm,HD.out⟩
theorem yh (l:ai) (SA LA OA:Option Addr) (sn sc ln lc on oc:Nat) (a b:Int) (w:World) (h:fI w l SA LA OA sn sc ln lc on oc) (hf:bB l) :
  Calls Tryz.prog 257 #[iD l SA LA OA sn sc ln lc on oc,.agg #[.int .i64 a,.int .i64 b]] w fun e w'=>e = .returned (.bool (tb (dM l ⟨a,b⟩)))/\Below w.heap.size w w':=by
 have hE:=kR (l:=l) (a:=a) (b:=b)
 have hsl0:=h.lens.1
 have hll0:=h.lens.2.1
 rw [hsl0,hll0] at hE
 clear hsl0 hll0
 have HB0:=Hd (aF (aF (Below.refl w.heap.size w) (.cells (av l SA LA OA sn sc ln lc on oc) 41)) (.cells #[.int .i64 a,.int .i64 b] 94))
 have hx:=bg (.cells #[.int .i64 a,.int .i64 b] 94) (aK w (.cells (av l SA LA OA sn sc ln lc on oc) 41))
 have hy:=aK (w.alloc (.cells (av l SA LA OA sn sc ln lc on oc) 41)) (.cells #[.int .i64 a,.int .i64 b] 94)
 simp only [World.size_alloc] at hy
 have HXB:=Hd hx
 have HYB:=Hd hy
 clear hx hy
 obtain ⟨hsl,hll,hol⟩:=h.lens
 have hsn:=hf.nseq
 have hln:=hf.nlut
 have hon:=hf.nout
 have hin:=hf.inp
 rw [hsl] at hsn
 rw [hll] at hln
 rw [hol] at hon
 have HN:=Hd h
 have HF:=Hd hf
 have HSL:=Hd hsl
 have HLL:=Hd hll
 have HOL:=Hd hol
 have HFI:Hid ((l.first:Int)=1+l.inputs+(sn:Int)):=by show _=_;unfold ai.first;omega
 have HCO:Hid ((l.count:Int)=1+l.inputs+(sn:Int)+(ln:Int)):=by show _=_;unfold ai.count ai.first;omega
 clear h hf hsl hll hol
 cases hr1:inR a (-1) ((ln:Int) - 1) with
 | false =>
  have HR:Hid (¬dM l ⟨a,b⟩):=fun h=>by
   have h2:=(hE.1 h).1
   rw [aV.2 ⟨h2.1,by omega⟩] at hr1
   cases hr1
  have H1:=Hd hr1
  clear hr1 hE
  go_enter Tryz.func257,Tryz.ntmps257
  go_upto_region 1 with fail
  generalize (w.alloc (.cells (av l SA LA OA sn sc ln lc on oc) 41)).alloc (.cells #[.int .i64 a,.int .i64 b] 94)=W9 at *
  have x2:=aA (k:=2) HXB.out rfl
  have y0:=aA (k:=0) HYB.out rfl
  have lx:=aC HXB.out
  have ly:=aC HYB.out
  go_wp2_with fail
  refine (aN a (-1) ((ln:Int) - 1) _).mono ?_
  rw [H1.out]
  rintro _ w' ⟨rfl,rfl⟩
  go_wp2_with fail
  go_ret
  exact ⟨aP HR.out,HB0.out⟩
 | true =>
  have ha:=aV.1 hr1
  have H1:=Hd hr1
  clear hr1
  cases hr2:inR b (-1) ((sn:Int) - 1) with
  | false =>
   have HR:Hid (¬dM l ⟨a,b⟩):=fun h=>by
    have h2:=(hE.1 h).2.1
    rw [aV.2 ⟨h2.1,by omega⟩] at hr2
    cases hr2
   have H2:=Hd hr2
   clear hr2 hE
   go_enter Tryz.func257,Tryz.ntmps257
   go_upto_region 1 with fail
   generalize (w.alloc (.cells (av l SA LA OA sn sc ln lc on oc) 41)).alloc (.cells #[.int .i64 a,.int .i64 b] 94)=W9 at *
   have x1:=aA (k:=1) HXB.out rfl
   have x2:=aA (k:=2) HXB.out rfl
   have y0:=aA (k:=0) HYB.out rfl
   have y1:=aA (k:=1) HYB.out rfl
   have lx:=aC HXB.out
   have ly:=aC HYB.out
   go_wp2_with fail
   refine (aN a (-1) ((ln:Int) - 1) _).mono ?_
   rw [H1.out]
   rintro _ w' ⟨rfl,rfl⟩
   go_wp2_with fail
   refine (aN b (-1) ((sn:Int) - 1) _).mono ?_
   rw [H2.out]
   rintro _ w' ⟨rfl,rfl⟩
   go_wp2_with fail
   go_ret
   exact ⟨aP HR.out,HB0.out⟩
  | true =>
   have hb:=aV.1 hr2
   have H2:=Hd hr2
   clear hr2
   by_cases hn:a=-1/\b=-1
   ·have HR:Hid (¬dM l ⟨a,b⟩):=fun h=>(hE.1 h).2.2.1 hn
    obtain ⟨rfl,rfl⟩:=hn
    clear hE
    go_enter Tryz.func257,Tryz.ntmps257
    go_upto_region 1 with fail
    generalize (w.alloc (.cells (av l SA LA OA sn sc ln lc on oc) 41)).alloc (.cells #[.int .i64 (-1),.int .i64 (-1)] 94)=W9 at *
    have x1:=aA (k:=1) HXB.out rfl
    have x2:=aA (k:=2) HXB.out rfl
    have y0:=aA (k:=0) HYB.out rfl
    have y1:=aA (k:=1) HYB.out rfl
    have lx:=aC HXB.out
    have ly:=aC HYB.out
    go_wp2_with fail
    refine (aN (-1) (-1) ((ln:Int) - 1) _).mono ?_
    rw [H1.out]
    rintro _ w' ⟨rfl,rfl⟩
    go_wp2_with fail
    refine (aN (-1) (-1) ((sn:Int) - 1) _).mono ?_
    rw [H2.out]
    rintro _ w' ⟨rfl,rfl⟩
    go_wp2_with fail
    go_ret
    exact ⟨aP HR.out,HB0.out⟩
   ·have hnb:((a==-1) && (b==-1))=false:=by simp;omega
    have dab:(a==-1)=false∨(a==-1)=true/\(b==-1)=false:=by simp;omega
    by_cases hb0:0<=b
    ·have d1:decide (b≥0)=true:=decide_eq_true hb0
     have db:(b==-1)=false:=by simp;omega
     obtain ⟨F,rfl⟩:∃F:Nat,b=(F:Int):=⟨b.toNat,by omega⟩
     rw [Int.toNat_natCast] at hE
     have hF:F<sn:=by omega
     obtain ⟨bs,os,IA,im,ic,rfl,hbs,c0,c1,c2,r2⟩:=HN.out.sq.sq' (k:=F) (by rw [HSL.out];exact hF)
     have him:(l.seqs[F]?.getD Sq.zero).ins.length=im:=r2.ints.1
     have hi1:=(HF.out.seqs F (by rw [HSL.out];exact hF)).1
     have lbs:=aL HB0.out hbs
     rw [←HB0.out.cell (p:=⟨bs,os+F * 3,none⟩) hbs] at c0
     rw [←HB0.out.cell (p:=⟨bs,os+F * 3+2,none⟩) hbs] at c2
     have HR2:=Hd r2
     clear c1 r2
     generalize l.seqs[F]?.getD Sq.zero=s at *
     by_cases hk:s.kind=0
     ·have dk:(s.kind==0)=true:=by simp [hk]
      have dk':(s.kind != 0)=false:=by simp [hk]
      by_cases ha0:0<=a
      ·have d2:decide (a≥0)=true:=decide_eq_true ha0
       have da:(a==-1)=false:=by simp;omega
       obtain ⟨A,rfl⟩:∃A:Nat,a=(A:Int):=⟨a.toNat,by omega⟩
       have hA:A<ln:=by omega
       have him1:0<im:=by rcases hi1 with h|h <;> omega
       obtain ⟨K,hK⟩:∃K:Nat,1+l.inputs+(sn:Int)+(A:Int)=(K:Int):=⟨(1+l.inputs+(sn:Int)+(A:Int)).toNat,by omega⟩
       have hKC:K<l.count:=by have:=HCO.out;omega
       have hUN:vQ l ((l.first:Int)+(A:Int))=cnt (jS l) (K:Int):=by rw [uD,HFI.out,hK]
       have hFK:(l.first:Int)+(A:Int)=(K:Int):=by rw [HFI.out,hK]
       rw [hUN,hFK] at hE
       have hCI:l.count<=1048576:=by have:=HCO.out;omega
       have HK:=Hd hK
       obtain ⟨bi,oi,rfl,hbi,hci⟩:=HR2.out.ints.2 him1
       have ci:=hci 0 him1
       have lbi:=aL HB0.out hbi
       rw [←HB0.out.cell (p:=⟨bi,oi+0,none⟩) hbi,Nat.add_zero] at ci
       clear hci hi1 hnb dab hUN hFK hK
       generalize s.ins[0]?.getD 0=y at *
       have HU:=Hd (fun (v:World) (hv:Below w.heap.size w v)=>qz l (some ⟨bs,os,none⟩) LA OA sn sc ln lc on oc v (HN.out.below hv) HF.out)
       obtain ⟨C,hC⟩:∃C,l.count=C:=⟨_,rfl⟩
       rw [hC] at hKC hCI HU
       have HC:=Hd hC
       clear hC
       by_cases hy:y=(K:Int)
       ·by_cases hq:cnt (jS l) (K:Int)=1
        ·have HR:Hid (dM l ⟨(A:Int),(F:Int)⟩):=hE.2 ⟨⟨by omega,by omega⟩,⟨by omega,by omega⟩,by omega,fun _=>hk,fun _ _=>⟨hy,hq⟩⟩
         have HQ:=Hd hq
         subst hy
         clear hE hq hk
         go_enter Tryz.func257,Tryz.ntmps257
         go_upto_region 1 with fail
         generalize (w.alloc (.cells (av l (some ⟨bs,os,none⟩) LA OA sn sc ln lc on oc) 41)).alloc (.cells #[.int .i64 (A:Int),.int .i64 (F:Int)] 94)=W9 at *
         have x0:=aA (k:=0) HXB.out rfl
         have x1:=aA (k:=1) HXB.out rfl
         have x2:=aA (k:=2) HXB.out rfl
         have x3:=aA (k:=3) HXB.out rfl
         have y0:=aA (k:=0) HYB.out rfl
         have y1:=aA (k:=1) HYB.out rfl
         have lx:=aC HXB.out
         have ly:=aC HYB.out
         go_wp2_with fail
         refine (aN (A:Int) (-1) ((ln:Int) - 1) _).mono ?_
         rw [H1.out]
         rintro _ w' ⟨rfl,rfl⟩
         go_wp2_with fail
         refine (aN (F:Int) (-1) ((sn:Int) - 1) _).mono ?_
         rw [H2.out]
         rintro _ w' ⟨rfl,rfl⟩
         go_upto_region 6 with fail
         have HFL:=Hd (fun (x:Sub W9)=>jR l.inputs (some ⟨bs,os,none⟩) LA OA sn sc ln lc on oc x.v hin.1 (by omega) (by omega))
         have hsub:=aZ W9
         have hsc:=aR W9
         refine aI W9 (by kernel_rfl) (by kernel_rfl) (Below.refl _ _) ?_
         repeat (go_big_quiet_step ((first
          | (go_at_call 177;with_reducible exact aO (HFL.out _)))))
         refine wpQuiet_nil ?_
         rintro _ ⟨⟨w5,hD⟩,rfl⟩
         clear hsub hsc
         rw [HK.out]
         have HD:=Hd (aB HB0.out hD)
         have HX5:=Hd (aD hD HXB.out)
         have HY5:=Hd (aD hD HYB.out)
         have lbs5:=aL hD lbs
         have lbi5:=aL hD lbi
         rw [←hD.cell (p:=⟨bs,os+F * 3+2,none⟩) lbs] at c2
         rw [←hD.cell (p:=⟨bi,oi,none⟩) lbi] at ci
         clear x0 x1 x2 x3 y0 y1 lx ly
         clear hD c0 lbs lbi
         have x0:=aA (k:=0) HX5.out rfl
         have x1:=aA (k:=1) HX5.out rfl
         have x2:=aA (k:=2) HX5.out rfl
         have x3:=aA (k:=3) HX5.out rfl
         have y1:=aA (k:=1) HY5.out rfl
         have lx:=aC HX5.out
         have ly:=aC HY5.out
         go_wp2_with fail
         refine (HU.out _ HD.out).mono ?_
         rintro _ w6 ⟨UA,rfl,o6,b6⟩
         have HW6:=Hd (aB HD.out b6)
         obtain ⟨bu,ou,rfl,hbu,hcu⟩:=o6.ints.2 (by omega)
         have cu:=hcu K hKC
         rw [iL _ hKC,HQ.out] at cu
         clear o6 b6 hcu x0 x1 x2 x3 y1 lx ly c2 ci
         go_wp2_with fail
         go_ret
         exact ⟨cO HR.out,HW6.out⟩
        ·have HR:Hid (¬dM l ⟨(A:Int),(F:Int)⟩):=fun h=>hq ((hE.1 h).2.2.2.2 (by omega) (by omega)).2
         have hcb:=d9 (jS l) (K:Int)
         have HQ:=Hd hq
         subst hy
         clear hE hq hk
         go_enter Tryz.func257,Tryz.ntmps257
         go_upto_region 1 with fail
         generalize (w.alloc (.cells (av l (some ⟨bs,os,none⟩) LA OA sn sc ln lc on oc) 41)).alloc (.cells #[.int .i64 (A:Int),.int .i64 (F:Int)] 94)=W9 at *
         have x0:=aA (k:=0) HXB.out rfl
         have x1:=aA (k:=1) HXB.out rfl
         have x2:=aA (k:=2) HXB.out rfl
         have x3:=aA (k:=3) HXB.out rfl
         have y0:=aA (k:=0) HYB.out rfl
         have y1:=aA (k:=1) HYB.out rfl
         have lx:=aC HXB.out
         have ly:=aC HYB.out
         go_wp2_with fail
         refine (aN (A:Int) (-1) ((ln:Int) - 1) _).mono ?_
         rw [H1.out]
         rintro _ w' ⟨rfl,rfl⟩
         go_wp2_with fail
         refine (aN (F:Int) (-1) ((sn:Int) - 1) _).mono ?_
         rw [H2.out]
         rintro _ w' ⟨rfl,rfl⟩
         go_upto_region 6 with fail
         have HFL:=Hd (fun (x:Sub W9)=>jR l.inputs (some ⟨bs,os,none⟩) LA OA sn sc ln lc on oc x.v hin.1 (by omega) (by omega))
         have hsub:=aZ W9
         have hsc:=aR W9
         refine aI W9 (by kernel_rfl) (by kernel_rfl) (Below.refl _ _) ?_
         repeat (go_big_quiet_step ((first
          | (go_at_call 177;with_reducible exact aO (HFL.out _)))))
         refine wpQuiet_nil ?_
         rintro _ ⟨⟨w5,hD⟩,rfl⟩
         clear hsub hsc
         rw [HK.out]
         have HD:=Hd (aB HB0.out hD)
         have HX5:=Hd (aD hD HXB.out)
         have HY5:=Hd (aD hD HYB.out)
         have lbs5:=aL hD lbs
         have lbi5:=aL hD lbi
         rw [←hD.cell (p:=⟨bs,os+F * 3+2,none⟩) lbs] at c2
         rw [←hD.cell (p:=⟨bi,oi,none⟩) lbi] at ci
         clear x0 x1 x2 x3 y0 y1 lx ly
         clear hD c0 lbs lbi
         have x0:=aA (k:=0) HX5.out rfl
         have x1:=aA (k:=1) HX5.out rfl
         have x2:=aA (k:=2) HX5.out rfl
         have x3:=aA (k:=3) HX5.out rfl
         have y1:=aA (k:=1) HY5.out rfl
         have lx:=aC HX5.out
         have ly:=aC HY5.out
         go_wp2_with fail
         refine (HU.out _ HD.out).mono ?_
         rintro _ w6 ⟨UA,rfl,o6,b6⟩
         have HW6:=Hd (aB HD.out b6)
         obtain ⟨bu,ou,rfl,hbu,hcu⟩:=o6.ints.2 (by omega)
         have cu:=hcu K hKC
         rw [iL _ hKC] at cu
         clear o6 b6 hcu x0 x1 x2 x3 y1 lx ly c2 ci
         generalize cnt (jS l) (K:Int)=q at *
         have dq:(((q:Nat):Int)==1)=false:=by have:=HQ.out;simp;omega
         go_wp2_with fail
         go_ret
         exact ⟨aP HR.out,HW6.out⟩
       ·have HR:Hid (¬dM l ⟨(A:Int),(F:Int)⟩):=fun h=>hy ((hE.1 h).2.2.2.2 (by omega) (by omega)).1
        have dy:(y==(K:Int))=false:=by simp;exact hy
        clear hE hk hy
        go_enter Tryz.func257,Tryz.ntmps257
        go_upto_region 1 with fail
        generalize (w.alloc (.cells (av l (some ⟨bs,os,none⟩) LA OA sn sc ln lc on oc) 41)).alloc (.cells #[.int .i64 (A:Int),.int .i64 (F:Int)] 94)=W9 at *
        have x0:=aA (k:=0) HXB.out rfl
        have x1:=aA (k:=1) HXB.out rfl
        have x2:=aA (k:=2) HXB.out rfl
        have x3:=aA (k:=3) HXB.out rfl
        have y0:=aA (k:=0) HYB.out rfl
        have y1:=aA (k:=1) HYB.out rfl
        have lx:=aC HXB.out
        have ly:=aC HYB.out
        go_wp2_with fail
        refine (aN (A:Int) (-1) ((ln:Int) - 1) _).mono ?_
        rw [H1.out]
        rintro _ w' ⟨rfl,rfl⟩
        go_wp2_with fail
        refine (aN (F:Int) (-1) ((sn:Int) - 1) _).mono ?_
        rw [H2.out]
        rintro _ w' ⟨rfl,rfl⟩
        go_upto_region 6 with fail
        have HFL:=Hd (fun (x:Sub W9)=>jR l.inputs (some ⟨bs,os,none⟩) LA OA sn sc ln lc on oc x.v hin.1 (by omega) (by omega))
        have hsub:=aZ W9
        have hsc:=aR W9
        refine aI W9 (by kernel_rfl) (by kernel_rfl) (Below.refl _ _) ?_
        repeat (go_big_quiet_step ((first
         | (go_at_call 177;with_reducible exact aO (HFL.out _)))))
        refine wpQuiet_nil ?_
        rintro _ ⟨⟨w5,hD⟩,rfl⟩
        clear hsub hsc
        rw [HK.out]
        have HD:=Hd (aB HB0.out hD)
        have HX5:=Hd (aD hD HXB.out)
        have HY5:=Hd (aD hD HYB.out)
        have lbs5:=aL hD lbs
        have lbi5:=aL hD lbi
        rw [←hD.cell (p:=⟨bs,os+F * 3+2,none⟩) lbs] at c2
        rw [←hD.cell (p:=⟨bi,oi,none⟩) lbi] at ci
        clear x0 x1 x2 x3 y0 y1 lx ly
        clear hD c0 lbs lbi
        have x0:=aA (k:=0) HX5.out rfl
        have x1:=aA (k:=1) HX5.out rfl
        have x2:=aA (k:=2) HX5.out rfl
        have x3:=aA (k:=3) HX5.out rfl
        have y1:=aA (k:=1) HY5.out rfl
        have lx:=aC HX5.out
        have ly:=aC HY5.out
        go_wp2_with fail
        go_ret
        exact ⟨aP HR.out,HD.out⟩
      ·have HR:Hid (dM l ⟨a,(F:Int)⟩):=hE.2 ⟨⟨by omega,by omega⟩,⟨by omega,by omega⟩,hn,fun _=>hk,fun h=>absurd h ha0⟩
       have d2:decide (a≥0)=false:=decide_eq_false ha0
       obtain rfl:a=-1:=by omega
       clear hE hk dab hnb hn ha0
       go_enter Tryz.func257,Tryz.ntmps257
       go_upto_region 1 with fail
       generalize (w.alloc (.cells (av l (some ⟨bs,os,none⟩) LA OA sn sc ln lc on oc) 41)).alloc (.cells #[.int .i64 (-1),.int .i64 (F:Int)] 94)=W9 at *
       have x1:=aA (k:=1) HXB.out rfl
       have x2:=aA (k:=2) HXB.out rfl
       have y0:=aA (k:=0) HYB.out rfl
       have y1:=aA (k:=1) HYB.out rfl
       have lx:=aC HXB.out
       have ly:=aC HYB.out
       go_wp2_with fail
       refine (aN (-1) (-1) ((ln:Int) - 1) _).mono ?_
       rw [H1.out]
       rintro _ w' ⟨rfl,rfl⟩
       go_wp2_with fail
       refine (aN (F:Int) (-1) ((sn:Int) - 1) _).mono ?_
       rw [H2.out]
       rintro _ w' ⟨rfl,rfl⟩
       go_wp2_with fail
       go_ret
       exact ⟨cO HR.out,HB0.out⟩
     ·have dk':(s.kind != 0)=true:=by simp;exact hk
      have HR:Hid (¬dM l ⟨a,(F:Int)⟩):=fun h=>hk ((hE.1 h).2.2.2.1 (by omega))
      clear hE hk
      rcases dab with da|⟨da,_⟩
      ·clear hnb
       go_enter Tryz.func257,Tryz.ntmps257
       go_upto_region 1 with fail
       generalize (w.alloc (.cells (av l (some ⟨bs,os,none⟩) LA OA sn sc ln lc on oc) 41)).alloc (.cells #[.int .i64 a,.int .i64 (F:Int)] 94)=W9 at *
       have x1:=aA (k:=1) HXB.out rfl
       have x2:=aA (k:=2) HXB.out rfl
       have y0:=aA (k:=0) HYB.out rfl
       have y1:=aA (k:=1) HYB.out rfl
       have lx:=aC HXB.out
       have ly:=aC HYB.out
       go_wp2_with fail
       refine (aN a (-1) ((ln:Int) - 1) _).mono ?_
       rw [H1.out]
       rintro _ w' ⟨rfl,rfl⟩
       go_wp2_with fail
       refine (aN (F:Int) (-1) ((sn:Int) - 1) _).mono ?_
       rw [H2.out]
       rintro _ w' ⟨rfl,rfl⟩
       go_wp2_with fail
       go_ret
       exact ⟨aP HR.out,HB0.out⟩
      ·clear hnb
       go_enter Tryz.func257,Tryz.ntmps257
       go_upto_region 1 with fail
       generalize (w.alloc (.cells (av l (some ⟨bs,os,none⟩) LA OA sn sc ln lc on oc) 41)).alloc (.cells #[.int .i64 a,.int .i64 (F:Int)] 94)=W9 at *
       have x1:=aA (k:=1) HXB.out rfl
       have x2:=aA (k:=2) HXB.out rfl
       have y0:=aA (k:=0) HYB.out rfl
       have y1:=aA (k:=1) HYB.out rfl
       have lx:=aC HXB.out
       have ly:=aC HYB.out
       go_wp2_with fail
       refine (aN a (-1) ((ln:Int) - 1) _).mono ?_
       rw [H1.out]
       rintro _ w' ⟨rfl,rfl⟩
       go_wp2_with fail
       refine (aN (F:Int) (-1) ((sn:Int) - 1) _).mono ?_
       rw [H2.out]
       rintro _ w' ⟨rfl,rfl⟩
       go_wp2_with fail
       go_ret
       exact ⟨aP HR.out,HB0.out⟩
    ·have d1:decide (b≥0)=false:=decide_eq_false hb0
     obtain rfl:b=-1:=by omega
     have da:(a==-1)=false:=by simp;omega
     have HR:Hid (dM l ⟨a,-1⟩):=hE.2 ⟨⟨by omega,by omega⟩,⟨by omega,by omega⟩,hn,fun h=>by omega,fun _ h=>by omega⟩
     have d2:decide (a≥0)=true:=decide_eq_true (by omega)
     clear hE hn hb0 dab hnb
     go_enter Tryz.func257,Tryz.ntmps257
     go_upto_region 1 with fail
     generalize (w.alloc (.cells (av l SA LA OA sn sc ln lc on oc) 41)).alloc (.cells #[.int .i64 a,.int .i64 (-1)] 94)=W9 at *
     have x1:=aA (k:=1) HXB.out rfl
     have x2:=aA (k:=2) HXB.out rfl
     have y0:=aA (k:=0) HYB.out rfl
     have y1:=aA (k:=1) HYB.out rfl
     have lx:=aC HXB.out
     have ly:=aC HYB.out
     go_wp2_with fail
     refine (aN a (-1) ((ln:Int) - 1) _).mono ?_
     rw [H1.out]
     rintro _ w' ⟨rfl,rfl⟩
     go_wp2_with fail
     refine (aN (-1) (-1) ((sn:Int) - 1) _).mono ?_
     rw [H2.out]
     rintro _ w' ⟨rfl,rfl⟩
     go_wp2_with fail
     go_ret
     exact ⟨cO HR.out,HB0.out⟩
end Go.Proofs.YtofihjoanjkdmaaGreat
