/- The program's values, steps and runs of networks of look-up tables that are valid. The program's steps and runs of networks of look-up tables that are valid. -/
import Derived.Deep.CutRange
import Derived.Deep.DeepCutAuto
import Derived.Test.YtignkfhdkcgkgaaGreatLnP1
import Derived.Test.YtignkfhdkcgkgaaGreatSepN
import Derived.Test.YtignkfhdkcgkgaaGreatVal
namespace Go.Proofs.YtignkfhdkcgkgaaGreat
set_option maxRecDepth 100000
open Go.RowKit Cw

set_option maxHeartbeats 1000000 in
theorem packNodes_any (A:Option Addr) (n c:Nat) (vs:List Int) (B:Option Addr) (m q:Nat) (ns:List Int) (w:World) (hA:Ints w A n vs) (hB:Ints w B m ns) (h2:In2 vs) (hm:m≤60) (hn:n≤1048576) (hx:∀x∈ns,0≤x∧x<(n:Int)) :
  Calls Tryz.prog 152 #[.slice A n c,.slice B m q] w fun e w'=>e = .returned (.int .i64 ((pk vs ns:Nat):Int))∧w=w':=by
 have HA:=Lib.hid hA
 have HB:=Lib.hid hB
 have HX:=Lib.hid hx
 have H2:=Lib.hid h2
 have HPK:Hid (pk vs ns=pkTo vs ns m):=by show _=_;unfold pk;rw [hB.1]
 clear hA hB hx h2
 go_enter Tryz.func152,Tryz.ntmps152
 go_wp2_with fail
 go_loopw [5,10] (fun v i wr=>∃k:Nat,k≤m∧i = .int .i64 (k:Int)∧v = .int .i64 ((pkTo vs ns k:Nat):Int)∧w=wr) (fun _ i _=>m - (intOf i).toNat)
 case atStart=>exact ⟨0,by omega,rfl,rfl,rfl⟩
 case round =>
  obtain ⟨k,hk,rfl,rfl,rfl⟩:=hrel
  by_cases hlt:k<m
  ·have hdk:decide ((k:Int)<(m:Int))=true:=by simp;omega
   obtain ⟨b,o,rfl,hb,hc⟩:=HB.out.2 (by omega)
   have hck:=hc k hlt
   have hkl:k<ns.length:=by rw [HB.out.1];exact hlt
   have hxx:=HX.out _ (List.getElem_mem hkl)
   have HPS:Hid (pkTo vs ns (k+1)=pkTo vs ns k+(nv vs (ns[k]?.getD 0)).toNat * 2 ^ k):=rfl
   have HLT:=Lib.hid (pkTo_lt H2.out ns k)
   rw [List.getElem?_eq_getElem hkl,Option.getD_some] at hck HPS
   generalize ns[k]=x at *
   obtain ⟨xn,rfl⟩:=Int.eq_ofNat_of_zero_le hxx.1
   obtain ⟨bv,ov,rfl,hbv,hcv⟩:=HA.out.2 (by omega)
   have hcx:=hcv xn (by omega)
   have hv:=H2.out (xn:Int)
   change w.cell? ⟨bv,ov+xn,none⟩=some (.int .i64 (nv vs (xn:Int))) at hcx
   generalize nv vs (xn:Int)=v at *
   obtain ⟨vn,rfl⟩:=Int.eq_ofNat_of_zero_le hv.1
   have hv1:vn≤1:=by omega
   have i0:(0:Int)≤(k:Int):=by omega
   have i1:(k:Int)<(m:Int):=by omega
   have i2:(xn:Int)<(n:Int):=hxx.2
   have i3:(0:Int)≤(xn:Int):=by omega
   generalize pkTo vs ns k=u at *
   clear hc hcv hxx hv
   go_wp2_with fail
   go_roundw
   case rel=>exact ⟨k+1,by omega,by go_num,by rw [HPS.out,or_bit HLT.out hv1 (by omega)];simp,by first|rfl|trivial⟩
   case measure=>simp [intOf];omega
  ·have hkn:k=m:=by omega
   subst hkn
   have hdk:decide ((k:Int)<(k:Int))=false:=by simp
   go_wp2_with fail
   go_ret
   exact ⟨ret_int (by rw [HPK.out]),rfl⟩
theorem snoc_set {α:Type} (A:List α) (n:Nat) (y v:α):(A++List.replicate (n+1) y).set A.length v=(A++[v])++List.replicate n y:=by
 rw [List.set_append_right _ _ (Nat.le_refl _),Nat.sub_self,List.replicate_succ,List.set_cons_zero,List.append_assoc]
 rfl
abbrev netI (I:Nat) (SA LA OA:Option Addr) (sn sc ln lc on oc:Nat):Value := .agg #[.int .i64 (I:Int),.slice SA sn sc,.slice LA ln lc,.slice OA on oc]
abbrev netIC (I:Nat) (SA LA OA:Option Addr) (sn sc ln lc on oc:Nat):Array Value:=#[.int .i64 (I:Int),.slice SA sn sc,.slice LA ln lc,.slice OA on oc]
/-- The values while the inputs and the states are entered. -/
def lvA (l:LNet) (x:Int) (k:Nat):List Int:=(0 :: (List.range k).map (lbit x))++List.replicate (l.count - 1 - k) 0
def lvB (l:LNet) (st:List Int) (x:Int) (k:Nat):List Int:=(0 :: ((List.range l.inputs.toNat).map (lbit x)++(st.take k).map fun (y:Int)=>y % 2))++List.replicate (l.count - 1 - l.inputs.toNat - k) 0
theorem lvA_zero (l:LNet) (x:Int) (h:1≤l.count):lvA l x 0=List.replicate l.count 0:=by
 unfold lvA
 rw [show l.count=(l.count - 1 - 0)+1 by omega,List.replicate_succ]
 simp
theorem lvA_set (l:LNet) (x:Int) {k:Nat} (h:1+k<l.count):(lvA l x k).set (1+k) (lbit x k)=lvA l x (k+1):=by
 unfold lvA
 have e:=snoc_set (0 :: (List.range k).map (lbit x)) (l.count - 1 - (k+1)) 0 (lbit x k)
 rw [show (0 :: (List.range k).map (lbit x)).length=1+k by simp;omega,show l.count - 1 - (k+1)+1=l.count - 1 - k by omega] at e
 rw [e,List.range_succ,List.map_append,List.map_cons,List.map_nil,List.cons_append]
theorem lvAB (l:LNet) (st:List Int) (x:Int):lvA l x l.inputs.toNat=lvB l st x 0:=by
 unfold lvA lvB
 simp
theorem lvB_set (l:LNet) (st:List Int) (x:Int) {k:Nat} {y:Int} (hy:st[k]?=some y) (h:1+l.inputs.toNat+k<l.count):(lvB l st x k).set (1+l.inputs.toNat+k) (y % 2)=lvB l st x (k+1):=by
 unfold lvB
 have hk:=(List.getElem?_eq_some_iff.1 hy).1
 have e:=snoc_set (0 :: ((List.range l.inputs.toNat).map (lbit x)++(st.take k).map fun (y:Int)=>y % 2)) (l.count - 1 - l.inputs.toNat - (k+1)) 0 (y % 2)
 rw [show (0 :: ((List.range l.inputs.toNat).map (lbit x)++(st.take k).map fun (y:Int)=>y % 2)).length=1+l.inputs.toNat+k by simp;omega,show l.count - 1 - l.inputs.toNat - (k+1)+1=l.count - 1 - l.inputs.toNat - k by omega] at e
 rw [e,List.take_add_one,hy,Option.toList_some,List.map_append,List.map_cons,List.map_nil,List.cons_append,List.append_assoc]
theorem lvB_full (l:LNet) (st:List Int) (x:Int) (h:st.length=l.seqs.length):lvB l st x st.length=lnTo l st x 0:=by
 unfold lvB
 rw [List.take_length,lnTo]
 unfold lnBase
 congr 2
 unfold LNet.count LNet.first
 omega
theorem lnTo_next (l:LNet) (st:List Int) (x:Int) (k:Nat):(lnTo l st x k).set (l.first+k) (lutV l (lnTo l st x k) k)=lnTo l st x (k+1):=rfl
set_option maxHeartbeats 4000000 in
theorem lutValues_any (l:LNet) (I:Nat) (SA LA OA:Option Addr) (sn sc ln lc on oc:Nat) (TA:Option Addr) (tc:Nat) (st:List Int) (x:Int) (w:World) (h:NetRd w l SA LA OA sn sc ln lc on oc) (hf:NetFit l) (hI:l.inputs=(I:Int)) (ht:Ints w TA sn st) (hs:StFit l st) :
  Calls Tryz.prog 150 #[netI I SA LA OA sn sc ln lc on oc,.slice TA sn tc,.int .i64 x] w fun e w'=>∃A,e = .returned (.slice A l.count l.count)∧Own w.heap.size w' A l.count l.count (lnVals l st x)∧Below w.heap.size w w':=by
 have HB0:=Lib.hid (below_new (Below.refl w.heap.size w) (.cells (netIC I SA LA OA sn sc ln lc on oc) 61))
 have HBX:=Lib.hid (heap_new w (.cells (netIC I SA LA OA sn sc ln lc on oc) 61))
 obtain ⟨hsl,hll,hol⟩:=h.lens
 have h1:=hf.nseq
 have h2:=hf.nlut
 have hin:=hf.inp
 have HN:=Lib.hid h
 have HF:=Lib.hid hf
 have HT:=Lib.hid ht
 have HS:=Lib.hid hs
 have HLL:=Lib.hid hll
 have HTL:=Lib.hid ht.1
 have hC:1+l.inputs+(sn:Int)+(ln:Int)=(l.count:Int):=by unfold LNet.count LNet.first;omega
 have HCN:Hid (l.count=1+l.inputs.toNat+sn+ln):=by show _=_;unfold LNet.count LNet.first;omega
 have HFN:Hid (l.first=1+l.inputs.toNat+sn):=by show _=_;unfold LNet.first;omega
 have HVL:=Lib.hid (fun k=>lnTo_length l hs.len x k)
 have HA0:=Lib.hid (lvA_zero l x (by unfold LNet.count LNet.first;omega))
 have HAS:=Lib.hid (fun k h=>lvA_set l x (k:=k) h)
 have HAB:=Lib.hid (lvAB l st x)
 have HBS:=Lib.hid (fun k y hy h=>lvB_set l st x (k:=k) (y:=y) hy h)
 have HBF:=Lib.hid (lvB_full l st x hs.len)
 have HLV:Hid (lnVals l st x=lnTo l st x ln):=by show _=_;unfold lnVals;rw [hll]
 have HII:=Lib.hid hI
 obtain ⟨C,hCC⟩:∃C,l.count=C:=⟨_,rfl⟩
 have HCC:=Lib.hid hCC
 have hIt:l.inputs.toNat=I:=by omega
 have HIT:=Lib.hid hIt
 rw [hCC,hI] at hC
 have hI20:I≤20:=by omega
 have hCa:C≤1+I+sn+ln:=by omega
 have hCb:1+I+sn+ln≤C:=by omega
 have hsn12:sn≤12:=by omega
 have hln4:ln≤400:=by omega
 obtain ⟨i0,hi,hz0,hz1,hz2⟩:=info_parts int_info
 have hmk:=fun W=>run_make_rowN (P:=Tryz.prog) 27 3 i0 _ Tryz.underlying27 hi hz0 .i64 .i64 C C (Nat.le_refl _) (by rw [hz2];omega) (by omega) W
 rw [hz1,Nat.mul_one,show (Value.int .i64 0).cells=#[Value.int .i64 0] from rfl,arr_made] at hmk
 have HC:=Lib.hid hC
 rw [hCC]
 clear h hf ht hs hsl hll hol h1 h2 hin hCC hI hIt hi hz0 hz1 hz2
 go_enter Tryz.func150,Tryz.ntmps150
 go_wp2_with fail
 refine (lutNodes_any (I:Int) SA LA OA sn sc ln lc on oc _ (by omega) (by omega) (by omega) (by omega)).mono ?_
 rw [HC.out]
 rintro _ w1 ⟨rfl,b1⟩
 have HX1:=Lib.hid (heap_tr b1 HBX.out)
 have HW1:=Lib.hid (below_tr HB0.out b1)
 have hs1:=(Sepa.refl w1).consOwn (below_new (Below.refl _ _) (.cells (arr (List.replicate C 0)) 3)) (Own.arr (n:=C) (heap_new w1 _) (Nat.le_refl _) (by unfold maxLen;omega) (by simp))
 have HS1:=Lib.hid hs1
 have HX2:=Lib.hid (heap_tr hs1.bel HX1.out)
 clear b1 hs1
 have hx:=HX2.out
 have x0:=cell_heap (k:=0) hx rfl
 have lx:=heap_lt0 hx
 clear hx
 go_wp2_with fail
 clear hC x0 lx
 go_loopw [8] (fun i wr=>∃k:Nat,k≤I∧i = .int .i64 (k:Int)∧Sepa w1 wr [.cel (celI (lvA l x k)) (.slice (some ⟨w1.heap.size,0,none⟩) C C)]) (fun i _=>I - (intOf i).toNat)
 case atStart=>exact ⟨0,by omega,rfl,by rw [HA0.out,HCC.out];exact HS1.out⟩
 case round =>
  obtain ⟨k,hk,rfl,hs⟩:=hrel
  have HSS:=Lib.hid hs
  have hx:=heap_tr hs.bel HX1.out
  have x0:=cell_heap (k:=0) hx rfl
  have lx:=heap_lt0 hx
  have lX1:=heap_lt0 HX1.out
  by_cases hlt:k<I
  ·have hdk:decide ((k:Int)<(I:Int))=true:=by simp;omega
   obtain ⟨_,hg,_,lN,cN,fN,hN3⟩:=hs.setI 0 rfl (show 1+k<C by omega)
   injection hg with hg
   injection hg with hg
   subst hg
   have hn3:=hN3 (lbit x k)
   replace hn3:=(show Sepa w1 (wr.setCell ⟨w1.heap.size,1+k,none⟩ (.int .i64 (lbit x k))) [.cel (celI ((lvA l x k).set (1+k) (lbit x k))) (.slice (some ⟨w1.heap.size,0,none⟩) C C)] from hn3)
   rw [HAS.out k (by rw [HCC.out];omega)] at hn3
   have HN3:=Lib.hid hn3
   have i0:(0:Int)≤(k:Int):=by omega
   have i1:(k:Int)<(I:Int):=by omega
   have i2:(k:Int)≤20:=by omega
   have i3:(1+(k:Int)).toNat=1+k:=by omega
   have i4:1+(k:Int)<(C:Int):=by omega
   have hne:w.heap.size≠w1.heap.size:=by omega
   clear hs hx hN3 hn3
   go_wp2_with fail
   go_roundw
   case rel=>exact ⟨k+1,by omega,by go_num,HN3.out⟩
   case measure=>simp [intOf];omega
  ·have hkn:k=I:=by omega
   have hdk:decide ((k:Int)<(I:Int))=false:=by simp;omega
   have HSB:=Lib.hid (show Sepa w1 wr [.cel (celI (lvB l st x 0)) (.slice (some ⟨w1.heap.size,0,none⟩) C C)] from by rw [←HAB.out,HIT.out,←hkn];exact hs)
   clear hs hkn hx
   obtain ⟨wo,rfl⟩:∃y,y=wr:=⟨wr,rfl⟩
   go_wp2_with fail
   clear x0 lx
   go_loopw [33] (fun i wr=>∃k:Nat,k≤sn∧i = .int .i64 (k:Int)∧Sepa w1 wr [.cel (celI (lvB l st x k)) (.slice (some ⟨w1.heap.size,0,none⟩) C C)]) (fun i _=>sn - (intOf i).toNat)
   case atStart=>exact ⟨0,by omega,rfl,HSB.out⟩
   case round =>
    obtain ⟨k,hk,rfl,hs⟩:=hrel
    have HSS:=Lib.hid hs
    have hx:=heap_tr hs.bel HX1.out
    have x0:=cell_heap (k:=0) hx rfl
    have x2:=cell_heap (k:=2) hx rfl
    have lx:=heap_lt0 hx
    by_cases hlt2:k<sn
    ·have hdk2:decide ((k:Int)<(sn:Int))=true:=by simp;omega
     have hty:=HS.out.fit k (by rw [←HS.out.len,HTL.out];exact hlt2)
     have hgy:st[k]?=some (st[k]?.getD 0):=by rw [List.getElem?_eq_getElem (by rw [HTL.out];exact hlt2)];rfl
     obtain ⟨bt,ot,rfl,hbt,hct⟩:=HT.out.2 (by omega)
     have hck:=((below_tr HW1.out hs.bel).cell (p:=⟨bt,ot+k,none⟩) hbt).trans (hct k hlt2)
     have lbt:=below_lt (below_tr HW1.out hs.bel) hbt
     obtain ⟨_,hg,_,lN,cN,fN,hN3⟩:=hs.setI 0 rfl (show 1+I+k<C by omega)
     injection hg with hg
     injection hg with hg
     subst hg
     have hset:=HBS.out k _ hgy (by rw [HCC.out,HIT.out];omega)
     rw [HIT.out] at hset
     have hy31:0≤st[k]?.getD 0∧st[k]?.getD 0≤31:=⟨hty.1,by have h:=hty.2;split at h <;> omega⟩
     generalize st[k]?.getD 0=y at *
     have hn3:=(show Sepa w1 (wr.setCell ⟨w1.heap.size,1+I+k,none⟩ (.int .i64 (y % 2))) [.cel (celI ((lvB l st x k).set (1+I+k) (y % 2))) (.slice (some ⟨w1.heap.size,0,none⟩) C C)] from hN3 (y % 2))
     rw [hset] at hn3
     have HN3:=Lib.hid hn3
     have hand:=and1 hy31.1 hy31.2
     have i0:(0:Int)≤(k:Int):=by omega
     have i1:(k:Int)<(sn:Int):=by omega
     have i2:(k:Int)≤12:=by omega
     have i3:(1+(I:Int)+(k:Int)).toNat=1+I+k:=by omega
     have i4:1+(I:Int)+(k:Int)<(C:Int):=by omega
     have hne:w.heap.size≠w1.heap.size:=by omega
     have hne2:bt≠w1.heap.size:=by have:=heap_lt0 HX1.out;have:=HW1.out.size;omega
     clear hs hx hN3 hn3 hset hty hgy hct
     go_wp2_with fail
     go_roundw
     case rel=>exact ⟨k+1,by omega,by go_num,HN3.out⟩
     case measure=>simp [intOf];omega
    ·have hkn:k=sn:=by omega
     have hdk2:decide ((k:Int)<(sn:Int))=false:=by simp;omega
     have HSC:=Lib.hid (show Sepa w1 wr [.cel (celI (lnTo l st x 0)) (.slice (some ⟨w1.heap.size,0,none⟩) C C)] from by rw [←HBF.out,HTL.out,←hkn];exact hs)
     clear hs hkn hx
     obtain ⟨wp,rfl⟩:∃y,y=wr:=⟨wr,rfl⟩
     go_wp2_with fail
     clear x0 x2 lx
     go_loopw [51] (fun i wr=>∃k:Nat,k≤ln∧i = .int .i64 (k:Int)∧Sepa w1 wr [.cel (celI (lnTo l st x k)) (.slice (some ⟨w1.heap.size,0,none⟩) C C)]) (fun i _=>ln - (intOf i).toNat)
     case atStart=>exact ⟨0,by omega,rfl,HSC.out⟩
     case round =>
      obtain ⟨k,hk,rfl,hs⟩:=hrel
      have HSS:=Lib.hid hs
      by_cases hlt3:k<ln
      ·have hdk3:decide ((k:Int)<(ln:Int))=true:=by simp;omega
       have HNR:=Lib.hid (HN.out.below (below_tr HW1.out hs.bel))
       have HX3:=Lib.hid (heap_tr hs.bel HX1.out)
       obtain ⟨b,o,S,m,p,rfl,hbl,c0,c1,r2⟩:=HNR.out.lt.lut' (k:=k) (by rw [HLL.out];exact hlt3)
       obtain ⟨hok,hmk',hil⟩:=HF.out.luts k (by rw [HLL.out];exact hlt3)
       have hm:(l.luts[k]?.getD Lt.zero).ins.length=m:=r2.ints.1
       have HR2:=Lib.hid r2
       have HLU:Hid (lutV l (lnTo l st x k) k=((bit (l.luts[k]?.getD Lt.zero).mask.toNat (pk (lnTo l st x k) (l.luts[k]?.getD Lt.zero).ins):Nat):Int)):=rfl
       have HPP:=Lib.hid (pkTo_lt (in2_to l st x k) (l.luts[k]?.getD Lt.zero).ins m)
       have HPE:Hid (pk (lnTo l st x k) (l.luts[k]?.getD Lt.zero).ins=pkTo (lnTo l st x k) (l.luts[k]?.getD Lt.zero).ins m):=by show _=_;unfold pk;rw [hm]
       rw [hm] at hok hmk'
       generalize l.luts[k]?.getD Lt.zero=s at *
       obtain ⟨mk,hmm⟩:=Int.eq_ofNat_of_zero_le hmk'.1
       rw [hmm] at c1 hmk'
       have HMM:=Lib.hid hmm
       have hmk9:mk<65536:=by
        have h1:=hmk'.2
        have h3:2 ^ 2 ^ m≤2 ^ 2 ^ 4:=Nat.pow_le_pow_right (by omega) (Nat.pow_le_pow_right (by omega) hok)
        have h2:(mk:Int)<((2 ^ 2 ^ m:Nat):Int):=by rw [Int.natCast_pow];exact h1
        have h4:mk<2 ^ 2 ^ m:=by omega
        exact Nat.lt_of_lt_of_le h4 h3
       have HIL:=Lib.hid hil
       have HS9:=Lib.hid (hs.alloc (.cells #[.slice S m p,.int .i64 (mk:Int)] 110))
       have HW9:=Lib.hid (below_new (Below.refl wr.heap.size wr) (.cells #[.slice S m p,.int .i64 (mk:Int)] 110))
       have HY9:=Lib.hid (heap_new wr (.cells #[.slice S m p,.int .i64 (mk:Int)] 110))
       have hx9:=heap_tr HW9.out HX3.out
       have HX9:=Lib.hid hx9
       have hp15:pk (lnTo l st x k) s.ins<16:=by rw [HPE.out];exact Nat.lt_of_lt_of_le HPP.out (Nat.pow_le_pow_right (n:=2) (by omega) hok)
       have HSB9:=Lib.hid (shr_bit mk (pk (lnTo l st x k) s.ins) (by omega))
       have HNX:=Lib.hid (lnTo_next l st x k)
       have HFC:Hid (l.first+k<C):=by show _<_;rw [HFN.out,HIT.out];omega
       have hgz:wr.heap.size≠w.heap.size:=by have:=heap_lt0 HX3.out;omega
       have i0:(0:Int)≤(k:Int):=by omega
       have i1:(k:Int)<(ln:Int):=by omega
       clear hs r2 hm hmm hmk' hil
       go_upto_region 14 with fail
       clear c0 c1 hx9
       generalize wr.alloc (.cells #[.slice S m p,.int .i64 (mk:Int)] 110)=W9 at *
       have y0:=cell_heap (k:=0) HY9.out rfl
       have y1:=cell_heap (k:=1) HY9.out rfl
       have ly:=heap_lt0 HY9.out
       have x0:=cell_heap (k:=0) HX9.out rfl
       have x1:=cell_heap (k:=1) HX9.out rfl
       have x2:=cell_heap (k:=2) HX9.out rfl
       have x3:=cell_heap (k:=3) HX9.out rfl
       have lx:=heap_lt0 HX9.out
       have HPK:=Lib.hid (fun (w':World) (hb:Below W9.heap.size W9 w')=>packNodes_any (some ⟨w1.heap.size,0,none⟩) C C (lnTo l st x k) S m p s.ins w' ((HS9.out.below hb).ints 0 rfl) ((HR2.out.below HW9.out).below hb).ints (in2_to l st x k) (by omega) (by omega) (fun n hn=>by have h:=HIL.out n hn;have h2:=HFC.out;omega))
       have hidx:1+I+sn+k<C:=by have h2:=HFC.out;rw [HFN.out,HIT.out] at h2;exact h2
       have HIX:Hid (1+I+sn+k=l.first+k):=by show _=_;rw [HFN.out,HIT.out]
       have hlu:=HLU.out
       rw [HMM.out,Int.toNat_natCast] at hlu
       have HBT:=Lib.hid hlu.symm
       clear hlu
       have HLS:Hid ((lnTo l st x k).set (1+I+sn+k) ((bit mk (pk (lnTo l st x k) s.ins):Nat):Int)=lnTo l st x (k+1)):=by show _=_;rw [HIX.out,HBT.out,HNX.out]
       generalize hpq:pk (lnTo l st x k) s.ins=pq at *
       have HPQ:=Lib.hid hpq
       have hmin:min pq 64=pq:=by omega
       have HLT2:Hid ((lnTo l st x k).set (1+I+sn+k) (bits .and .i64 ((mk:Int) / 2 ^ pq) 1)=lnTo l st x (k+1)):=by show _=_;rw [HSB9.out];exact HLS.out
       clear hpq
       have v1:IntKind.i64.wrap (1+(I:Int)+(sn:Int)+(k:Int))=1+(I:Int)+(sn:Int)+(k:Int):=IntWalk.i64_in _ (by omega)
       have v2:(1+(I:Int)+(sn:Int)+(k:Int)).toNat=1+I+sn+k:=by omega
       have v3:(0:Int)≤1+(I:Int)+(sn:Int)+(k:Int):=by omega
       have v4:1+(I:Int)+(sn:Int)+(k:Int)<(C:Int):=by omega
       have HKC:=Lib.hid (fun (w':World) (hb:Below W9.heap.size W9 w')=>(show (fun w'=>w'.cell? ⟨w.heap.size,0,none⟩=some (.int .i64 (I:Int))∧w'.cell? ⟨w.heap.size,1,none⟩=some (.slice SA sn sc)∧w'.cell? ⟨w.heap.size,2,none⟩=some (.slice (some ⟨b,o,none⟩) ln lc)∧w'.cell? ⟨w.heap.size,3,none⟩=some (.slice OA on oc)∧w'.cell? ⟨wr.heap.size,0,none⟩=some (.slice S m p)∧w'.cell? ⟨wr.heap.size,1,none⟩=some (.int .i64 (mk:Int))) w' from ⟨cell_heap (k:=0) (heap_tr hb HX9.out) rfl,cell_heap (k:=1) (heap_tr hb HX9.out) rfl,cell_heap (k:=2) (heap_tr hb HX9.out) rfl,cell_heap (k:=3) (heap_tr hb HX9.out) rfl,cell_heap (k:=0) (heap_tr hb HY9.out) rfl,cell_heap (k:=1) (heap_tr hb HY9.out) rfl⟩))
       have hfar:∀(w':World) (j:Nat) (v:Value) (g:Nat) (ob:Obj),w'.heap[g]?=some ob→g≠w1.heap.size→(w'.setCell ⟨w1.heap.size,j,none⟩ v).heap[g]?=some ob:=fun w' j v g ob h hg=>(Below.heap_setCell w' ⟨w1.heap.size,j,none⟩ v g hg).trans h
       have hg1:w.heap.size≠w1.heap.size:=by omega
       have hg2:wr.heap.size≠w1.heap.size:=by have:=HSS.out.size;have:=(HSS.out.setI 0 rfl hidx).choose_spec;obtain ⟨hq,_,hq2,_⟩:=this;injection hq with hq;injection hq with hq;omega
       have HKD:=Lib.hid (fun (w':World) (hb:Below W9.heap.size W9 w') (j:Nat) (v:Value)=>(show ((fun w'=>w'.cell? ⟨w.heap.size,0,none⟩=some (.int .i64 (I:Int))∧w'.cell? ⟨w.heap.size,1,none⟩=some (.slice SA sn sc)∧w'.cell? ⟨w.heap.size,2,none⟩=some (.slice (some ⟨b,o,none⟩) ln lc)∧w'.cell? ⟨w.heap.size,3,none⟩=some (.slice OA on oc)∧w'.cell? ⟨wr.heap.size,0,none⟩=some (.slice S m p)∧w'.cell? ⟨wr.heap.size,1,none⟩=some (.int .i64 (mk:Int)))) (w'.setCell ⟨w1.heap.size,j,none⟩ v) from ⟨cell_heap (k:=0) (hfar _ j v _ _ (heap_tr hb HX9.out) hg1) rfl,cell_heap (k:=1) (hfar _ j v _ _ (heap_tr hb HX9.out) hg1) rfl,cell_heap (k:=2) (hfar _ j v _ _ (heap_tr hb HX9.out) hg1) rfl,cell_heap (k:=3) (hfar _ j v _ _ (heap_tr hb HX9.out) hg1) rfl,cell_heap (k:=0) (hfar _ j v _ _ (heap_tr hb HY9.out) hg2) rfl,cell_heap (k:=1) (hfar _ j v _ _ (heap_tr hb HY9.out) hg2) rfl⟩))
       clear hfar
       refine wp_region_noPanic ?_
       go_region_held3 (fun w'=>w'.cell? ⟨w.heap.size,0,none⟩=some (.int .i64 (I:Int))∧w'.cell? ⟨w.heap.size,1,none⟩=some (.slice SA sn sc)∧w'.cell? ⟨w.heap.size,2,none⟩=some (.slice (some ⟨b,o,none⟩) ln lc)∧w'.cell? ⟨w.heap.size,3,none⟩=some (.slice OA on oc)∧w'.cell? ⟨wr.heap.size,0,none⟩=some (.slice S m p)∧w'.cell? ⟨wr.heap.size,1,none⟩=some (.int .i64 (mk:Int)))
        (first|with_reducible exact HKC.out _ (Below.refl _ _)|with_reducible exact HKC.out _ (Below.refl _ _).drew|with_reducible exact HKC.out _ B5.out|with_reducible exact HKD.out _ B5.out _ _)
        (first
         | (go_at_call 80;(with_reducible refine (firstLut_any (I:Int) SA (some ⟨b,o,none⟩) OA sn sc ln lc on oc _ (by omega) (by omega) (by omega)).mono ?_);rintro _ w5 ⟨rfl,b5⟩;have B5:=Lib.hid (below_tr (Below.refl W9.heap.size W9).drew b5);have S5:=HS9.out.below B5.out;have lz:=heap_lt0 (heap_tr B5.out HY9.out);have lw:=heap_lt0 (heap_tr B5.out HX9.out);obtain ⟨_,hg',_,lU,cU,fU,hN5⟩:=S5.setI 0 rfl hidx;injection hg' with hg';injection hg' with hg';subst hg';have HN5:=Lib.hid (hN5 (bits .and .i64 ((mk:Int) / 2 ^ pq) 1));clear S5 hN5 b5)
         | (go_at_call 152;(with_reducible refine (HPK.out _ (by first|exact B5.out|exact (Below.refl _ _).drew|exact Below.refl _ _)).mono ?_);rintro _ w6 ⟨rfl,rfl⟩))
       all_goals
        refine NoPanic.normal ?_
        have hh:=(show Sepa w1 _ [.cel (celI ((lnTo l st x k).set (1+I+sn+k) (bits .and .i64 ((mk:Int) / 2 ^ pq) 1))) (.slice (some ⟨w1.heap.size,0,none⟩) C C)] from HN5.out)
        rw [HLT2.out] at hh
        have HH:=Lib.hid hh
        clear hh HN5
        go_wp2_with fail
        go_roundw
        case rel=>exact ⟨k+1,by omega,by go_num,by rw [hmin];exact HH.out⟩
        case measure=>simp [intOf];omega
      ·have hkn:k=ln:=by omega
       have hdk3:decide ((k:Int)<(ln:Int))=false:=by simp;omega
       have HFI:=Lib.hid (show Own w.heap.size wr (some ⟨w1.heap.size,0,none⟩) C C (lnVals l st x) from by rw [HLV.out,←hkn];exact (hs.owned 0 rfl).more HW1.out.size)
       have HFB:=Lib.hid (below_tr HW1.out hs.bel)
       clear hs hkn
       go_wp2_with fail
       go_ret
       exact ⟨_,rfl,HFI.out,HFB.out⟩
end Go.Proofs.YtignkfhdkcgkgaaGreat

namespace Go.Proofs.YtignkfhdkcgkgaaGreat
set_option maxRecDepth 100000
open Go.RowKit Cw

set_option maxHeartbeats 1000000 in
theorem seqMost_flop (w:World):Calls Tryz.prog 203 #[.int .i64 0] w fun e w'=>e = .returned (.int .i64 1)∧w'=w:=by
 go_enter Tryz.func203,Tryz.ntmps203
 go_wp2_with fail
 go_ret
 exact ⟨rfl,rfl⟩
set_option maxHeartbeats 1000000 in
theorem seqNext_flop (v i:Nat) (hv:v≤1) (hi:i≤1) (w:World) :
  Calls Tryz.prog 151 #[.int .i64 0,.int .i64 (v:Int),.int .i64 (i:Int)] w fun e w'=>e = .returned (.int .i64 ((i % 2:Nat):Int))∧w'=w:=by
 have HIN:Hid (inR (v:Int) 0 1=true):=inR_iff.2 ⟨by omega,by omega⟩
 have HA:=Lib.hid (and_one_nat i (by omega))
 go_enter Tryz.func151,Tryz.ntmps151
 go_wp2_with (first|(go_at_call 203;refine (seqMost_flop _).mono ?_;rintro e w' ⟨rfl,rfl⟩)|(go_at_call 116;refine (inRange_any _ _ _ _).mono ?_;rintro e w' ⟨rfl,rfl⟩;rw [HIN.out]))
 all_goals
  go_ret
  exact ⟨ret_int HA.out,rfl⟩
theorem seqNx_any (k y:Int) (i:Nat) (w:World) (h:k=0∧(0≤y∧y≤1)∧i≤1∨k=1∧(0≤y∧y≤31)∧i≤15) :
  Calls Tryz.prog 151 #[.int .i64 k,.int .i64 y,.int .i64 (i:Int)] w fun e w'=>e = .returned (.int .i64 (sqNx k y i))∧w'=w:=by
 rcases h with ⟨rfl,hy,hi⟩|⟨rfl,hy,hi⟩
 ·obtain ⟨v,rfl⟩:=Int.eq_ofNat_of_zero_le hy.1
  unfold sqNx
  rw [if_neg (by decide)]
  exact seqNext_flop v i (by omega) hi w
 ·obtain ⟨v,rfl⟩:=Int.eq_ofNat_of_zero_le hy.1
  unfold sqNx
  rw [if_pos rfl,Int.toNat_natCast]
  exact seqNext_ram v i (by omega) hi w
theorem lnNext_take (l:LNet) (st:List Int) (x:Int) (k:Nat):(List.range (k+1)).map (lnNx l st (lnVals l st x))=(List.range k).map (lnNx l st (lnVals l st x))++[lnNx l st (lnVals l st x) k]:=by simp [List.range_succ]
set_option maxHeartbeats 4000000 in
theorem lutStep_any (l:LNet) (I:Nat) (SA LA OA:Option Addr) (sn sc ln lc on oc:Nat) (TA:Option Addr) (tc:Nat) (st:List Int) (x:Int) (w:World) (h:NetRd w l SA LA OA sn sc ln lc on oc) (hf:NetFit l) (hI:l.inputs=(I:Int)) (ht:Ints w TA sn st) (hs:StFit l st) :
  Calls Tryz.prog 86 #[netI I SA LA OA sn sc ln lc on oc,.slice TA sn tc,.int .i64 x] w fun e w'=>∃A c,e = .returned (.tuple #[.slice A sn c,.int .i64 (lnOut l st x)])∧Own w.heap.size w' A sn c (lnNext l st x)∧Below w.heap.size w w':=by
 have HB0:=Lib.hid (below_new (Below.refl w.heap.size w) (.cells (netIC I SA LA OA sn sc ln lc on oc) 61))
 have HBX:=Lib.hid (heap_new w (.cells (netIC I SA LA OA sn sc ln lc on oc) 61))
 obtain ⟨hsl,hll,hol⟩:=h.lens
 have h1:=hf.nseq
 have hsn12:sn≤12:=by omega
 have hon16:on≤16:=by have:=hf.nout;omega
 have HN:=Lib.hid h
 have HF:=Lib.hid hf
 have HI:=Lib.hid hI
 have HT:=Lib.hid ht
 have HS:=Lib.hid hs
 have HSL:=Lib.hid hsl
 have HTL:=Lib.hid ht.1
 have HV:=Lib.hid (in2_to l st x l.luts.length)
 have HNX:=Lib.hid (fun k=>lnNext_take l st x k)
 have HNE:Hid (lnNext l st x=(List.range sn).map (lnNx l st (lnVals l st x))):=by show _=_;unfold lnNext;rw [hsl]
 have HOU:Hid (lnOut l st x=((pk (lnVals l st x) l.outs:Nat):Int)):=rfl
 have hC:l.count≤1048576:=by have:=hf.nlut;have:=hf.inp;unfold LNet.count LNet.first;omega
 change Hid (In2 (lnVals l st x)) at HV
 generalize hvs:lnVals l st x=vs at *
 have HVS:=Lib.hid hvs
 generalize hcc:l.count=C at *
 have HCC:=Lib.hid hcc
 clear h hf hI ht hs hsl hll hol h1 hvs hcc
 go_enter Tryz.func86,Tryz.ntmps86
 go_wp2_with fail
 refine (lutValues_any l I SA LA OA sn sc ln lc on oc TA tc st x _ (HN.out.below HB0.out) HF.out HI.out (HT.out.below HB0.out) HS.out).mono ?_
 rw [HCC.out,HVS.out]
 rintro _ w1 ⟨VA,rfl,ho,b1⟩
 obtain ⟨W0,hW0⟩:∃W0,W0=w.alloc (.cells (netIC I SA LA OA sn sc ln lc on oc) 61):=⟨_,rfl⟩
 rw [←hW0] at ho b1 HB0 HBX
 have hs1:=((Sepa.refl W0).consOwn b1 ho).pushNil 3 1
 have HS1:=Lib.hid hs1
 have HX1:=Lib.hid (heap_tr b1 HBX.out)
 have x1:=cell_heap (k:=1) HX1.out rfl
 have lx:=heap_lt0 HX1.out
 clear hs1 ho b1 hW0
 go_wp2_with fail
 clear x1 lx
 go_loopw [9,19] (fun v i wr=>∃(k:Nat) (A:Option Addr) (c:Nat),k≤sn∧i = .int .i64 (k:Int)∧v = .slice A k c∧Sepa W0 wr [.cel (celI vs) (.slice VA C C),.cel (celI ((List.range k).map (lnNx l st vs))) (.slice A k c)]) (fun _ i _=>sn - (intOf i).toNat)
 case atStart=>exact ⟨0,none,0,by omega,rfl,rfl,HS1.out⟩
 case round =>
  obtain ⟨k,NA,nc,hk,rfl,rfl,hs⟩:=hrel
  have HSS:=Lib.hid hs
  by_cases hlt:k<sn
  ·have hdk:decide ((k:Int)<(sn:Int))=true:=by simp;omega
   have HNR:=Lib.hid (HN.out.below (below_tr HB0.out hs.bel))
   obtain ⟨b,o,S,m,p,rfl,hbl,c0,c1,c2,r2⟩:=HNR.out.sq.sq' (k:=k) (by rw [HSL.out];exact hlt)
   obtain ⟨hok,hil⟩:=HF.out.seqs k (by rw [HSL.out];exact hlt)
   have hty:=HS.out.fit k (by rw [HSL.out];exact hlt)
   have hm:(l.seqs[k]?.getD Sq.zero).ins.length=m:=r2.ints.1
   have HR2:=Lib.hid r2
   have HNK:Hid (lnNx l st vs k=sqNx (l.seqs[k]?.getD Sq.zero).kind (st[k]?.getD 0) (pk vs (l.seqs[k]?.getD Sq.zero).ins)):=rfl
   have hpl:=pkTo_lt HV.out (l.seqs[k]?.getD Sq.zero).ins m
   have hpe:pk vs (l.seqs[k]?.getD Sq.zero).ins=pkTo vs (l.seqs[k]?.getD Sq.zero).ins m:=by unfold pk;rw [hm]
   rw [hm] at hok
   rw [←hpe] at hpl
   obtain ⟨bt,ot,rfl,hbt,hct⟩:=HT.out.2 (by omega)
   have HCT:=Lib.hid (hct k hlt)
   generalize l.seqs[k]?.getD Sq.zero=s at *
   generalize st[k]?.getD 0=y at *
   have HIL:=Lib.hid hil
   have hm4:m≤4:=by rcases hok with h|h <;> omega
   have hcase:s.kind=0∧(0≤y∧y≤1)∧pk vs s.ins≤1∨s.kind=1∧(0≤y∧y≤31)∧pk vs s.ins≤15:=by
    rcases hok with ⟨h1,_,h3⟩|⟨h1,_,h3⟩
    ·rw [h1,if_neg (by decide)] at hty
     rw [h3] at hpl
     exact .inl ⟨h1,hty,by omega⟩
    ·rw [h1,if_pos rfl] at hty
     rw [h3] at hpl
     exact .inr ⟨h1,hty,by omega⟩
   have HSQ:=Lib.hid (fun (w':World)=>seqNx_any s.kind y (pk vs s.ins) w' hcase)
   have HS9:=Lib.hid (hs.consBlk #[.int .i64 s.kind,.int .i64 s.init,.slice S m p] 105)
   have HR9:=Lib.hid (r2.below (below_new (Below.refl wr.heap.size wr) (.cells #[.int .i64 s.kind,.int .i64 s.init,.slice S m p] 105)))
   have i0:(0:Int)≤(k:Int):=by omega
   have i1:(k:Int)<(sn:Int):=by omega
   have lbt:=below_lt (below_tr HB0.out hs.bel) hbt
   clear hs r2 hm hpl hpe hct hty hok hil hcase
   go_upto_region 6 with fail
   clear c0 c1 c2
   generalize wr.alloc (.cells #[.int .i64 s.kind,.int .i64 s.init,.slice S m p] 105)=W9 at *
   have HPK:=Lib.hid (fun (w':World) (hb:Below W9.heap.size W9 w')=>packNodes_any VA C C vs S m p s.ins w' ((HS9.out.below hb).ints 1 rfl) (HR9.out.below hb).ints HV.out (by omega) (by omega) (by rw [←HCC.out];exact HIL.out))
   generalize hpq:pk vs s.ins=pq at *
   generalize hyy:sqNx s.kind y pq=Y at *
   have HYY:=Lib.hid hyy
   clear hpq hyy
   have HKC:=Lib.hid (fun (w':World) (r:List Pc) (h:Sepa W0 w' (.blk wr.heap.size #[.int .i64 s.kind,.int .i64 s.init,.slice S m p] 105 :: r))=>(show (fun w'=>w'.cell? ⟨wr.heap.size,0,none⟩=some (.int .i64 s.kind)∧w'.cell? ⟨wr.heap.size,2,none⟩=some (.slice S m p)∧w'.cell? ⟨bt,ot+k,none⟩=some (.int .i64 y)) w' from ⟨cell_heap (k:=0) (h.blk 0 rfl).1 rfl,cell_heap (k:=2) (h.blk 0 rfl).1 rfl,((below_tr HB0.out h.bel).cell (p:=⟨bt,ot+k,none⟩) hbt).trans HCT.out⟩))
   have HSW:=Lib.hid ((HS9.out.alloc (.cells #[.int .i64 Y] 3)).drew)
   have ly:=heap_lt0 (HS9.out.blk 0 rfl).1
   have lbt9:=below_lt (below_tr HB0.out HS9.out.bel) hbt
   refine wp_region_noPanic ?_
   go_region_held3 (fun w'=>w'.cell? ⟨wr.heap.size,0,none⟩=some (.int .i64 s.kind)∧w'.cell? ⟨wr.heap.size,2,none⟩=some (.slice S m p)∧w'.cell? ⟨bt,ot+k,none⟩=some (.int .i64 y))
    (first|with_reducible exact HKC.out _ _ HS9.out|with_reducible exact HKC.out _ _ HS9.out.drew|with_reducible exact HKC.out _ _ HSW.out|exact HKC.out _ _ HSW.out|exact HKC.out _ _ HS10.out)
    (first
     | (go_at_call 152;(with_reducible refine (HPK.out _ (by first|exact (Below.refl _ _).drew|exact Below.refl _ _)).mono ?_);rintro _ w6 ⟨rfl,rfl⟩)
     | (go_at_call 151;(with_reducible refine (HSQ.out _).mono ?_);rintro _ w6 ⟨rfl,rfl⟩)
     | (refine step_sepPush rfl _ _ (by rfl) _ HSW.out 2 NA k nc ((List.range k).map (lnNx l st vs)) Y _ (0,0) rfl (by rfl) (by rfl) (heap_new _ _) (by omega) ?_;intro g9 cap w9 S9 hz9;have HS10:=Lib.hid S9;clear S9 hz9))
   all_goals
    refine NoPanic.normal ?_
    go_wp2_with fail
    go_roundw
    case rel=>exact ⟨k+1,_,cap,by omega,by go_num,rfl,by rw [HNX.out,HNK.out];exact HS10.out.tail⟩
    case measure=>simp [intOf];omega
  ·have hkn:k=sn:=by omega
   have hdk:decide ((k:Int)<(sn:Int))=false:=by simp;omega
   have HX2:=Lib.hid (heap_tr hs.bel HBX.out)
   have x3:=cell_heap (k:=3) HX2.out rfl
   have lx:=heap_lt0 HX2.out
   have hv:=hs.ints 0 rfl
   have HPK:=Lib.hid (packNodes_any VA C C vs OA on oc l.outs wr hv (HN.out.below (below_tr HB0.out hs.bel)).ou.ints HV.out (by omega) hC (by rw [←HCC.out];exact HF.out.outs))
   have HFI:=Lib.hid (show Own w.heap.size wr NA sn nc (lnNext l st x) from by rw [HNE.out,←hkn];exact (hs.owned 1 rfl).more HB0.out.size)
   have HFB:=Lib.hid (below_tr HB0.out hs.bel)
   clear hs hv
   go_wp2_with fail
   refine HPK.out.mono ?_
   rintro _ w6 ⟨rfl,rfl⟩
   go_wp2_with fail
   go_ret2
   subst hkn
   exact ⟨NA,nc,by rw [HOU.out];rfl,HFI.out,HFB.out⟩
set_option maxHeartbeats 2000000 in
theorem lutStart_any (l:LNet) (In:Int) (SA LA OA:Option Addr) (sn sc ln lc on oc:Nat) (w:World) (h:RdC w w.heap.size (celSq l.seqs) (.slice SA sn sc)) (hn:sn≤1048576) :
  Calls Tryz.prog 85 #[.agg #[.int .i64 In,.slice SA sn sc,.slice LA ln lc,.slice OA on oc]] w fun e w'=>∃A c,e = .returned (.slice A sn c)∧Own w.heap.size w' A sn c (lnStart l)∧Below w.heap.size w w':=by
 have HB0:=Lib.hid (below_new (Below.refl w.heap.size w) (.cells #[.int .i64 In,.slice SA sn sc,.slice LA ln lc,.slice OA on oc] 61))
 have HSL:=Lib.hid h.sqN'
 have HR:=Lib.hid h
 have HTK:Hid (∀k:Nat,k<l.seqs.length→(l.seqs.take (k+1)).map Sq.init=(l.seqs.take k).map Sq.init++[(l.seqs[k]?.getD Sq.zero).init]):=fun k hk=>by
  rw [List.take_add_one,List.getElem?_eq_getElem hk,List.map_append];rfl
 have hs1:=(Sepa.refl (w.alloc (.cells #[.int .i64 In,.slice SA sn sc,.slice LA ln lc,.slice OA on oc] 61))).pushNil 3 1
 have HS1:=Lib.hid hs1
 clear h hs1
 go_enter Tryz.func85,Tryz.ntmps85
 go_wp2_with fail
 generalize w.alloc (.cells #[.int .i64 In,.slice SA sn sc,.slice LA ln lc,.slice OA on oc] 61)=W0 at *
 go_loopw [3,9] (fun v i wr=>∃(k:Nat) (A:Option Addr) (c:Nat),k≤sn∧i = .int .i64 (k:Int)∧v = .slice A k c∧Sepa W0 wr [.cel (celI ((l.seqs.take k).map Sq.init)) (.slice A k c)]) (fun _ i _=>sn - (intOf i).toNat)
 case atStart=>exact ⟨0,none,0,by omega,rfl,rfl,HS1.out⟩
 case round =>
  obtain ⟨k,NA,nc,hk,rfl,rfl,hs⟩:=hrel
  have HSS:=Lib.hid hs
  by_cases hlt:k<sn
  ·have hdk:decide ((k:Int)<(sn:Int))=true:=by simp;omega
   have HNR:=Lib.hid (HR.out.below (below_tr HB0.out hs.bel))
   obtain ⟨b,o,S,m,p,rfl,hbl,c0,c1,c2,r2⟩:=HNR.out.sq' (k:=k) (by rw [HSL.out];exact hlt)
   have HT:=Lib.hid (HTK.out k (by rw [HSL.out];exact hlt))
   generalize l.seqs[k]?.getD Sq.zero=s at *
   have HS9:=Lib.hid (hs.alloc (.cells #[.int .i64 s.kind,.int .i64 s.init,.slice S m p] 105))
   have i0:(0:Int)≤(k:Int):=by omega
   have i1:(k:Int)<(sn:Int):=by omega
   clear hs r2
   go_upto_region 5 with fail
   have y1:=cell_heap (k:=1) (heap_new wr (.cells #[.int .i64 s.kind,.int .i64 s.init,.slice S m p] 105)) rfl
   have ly:=heap_lt0 (heap_new wr (.cells #[.int .i64 s.kind,.int .i64 s.init,.slice S m p] 105))
   clear c0 c1 c2
   generalize wr.alloc (.cells #[.int .i64 s.kind,.int .i64 s.init,.slice S m p] 105)=W9 at *
   go_wp2_with (at_builtin;refine wpList_sepPush rfl _ _ rfl _ (HS9.out.alloc _) 0 NA k nc ((l.seqs.take k).map Sq.init) s.init _ (0,0) rfl rfl rfl (heap_new _ _) (by omega) ?_;intro g9 cap w9 S9 hz9;have HS10:=Lib.hid S9;clear S9)
   go_roundw
   case rel=>exact ⟨k+1,_,cap,by omega,by go_num,rfl,by rw [HT.out];exact HS10.out⟩
   case measure=>simp [intOf];omega
  ·have hkn:k=sn:=by omega
   have hdk:decide ((k:Int)<(sn:Int))=false:=by simp;omega
   have HFI:=Lib.hid (show Own w.heap.size wr NA sn nc (lnStart l) from by
    have h1:=(hs.owned 0 rfl).more HB0.out.size
    rw [List.take_of_length_le (by rw [HSL.out];omega),hkn] at h1
    exact h1)
   have HFB:=Lib.hid (below_tr HB0.out hs.bel)
   clear hs
   subst hkn
   go_wp2_with fail
   go_ret
   exact ⟨NA,nc,rfl,HFI.out,HFB.out⟩
theorem lnRun_take (l:LNet) (xs:List Int) (k:Nat):(List.range (k+1)).map (fun k=>lnOut l (lnSt l xs k) (xs[k]?.getD 0))=(List.range k).map (fun k=>lnOut l (lnSt l xs k) (xs[k]?.getD 0))++[lnOut l (lnSt l xs k) (xs[k]?.getD 0)]:=by simp [List.range_succ]
set_option maxHeartbeats 4000000 in
theorem lutRun_any (l:LNet) (I:Nat) (SA LA OA:Option Addr) (sn sc ln lc on oc:Nat) (XA:Option Addr) (xn xc:Nat) (xs:List Int) (w:World) (h:NetRd w l SA LA OA sn sc ln lc on oc) (hf:NetFit l) (hI:l.inputs=(I:Int)) (hx:Ints w XA xn xs) (h16:xn≤16) :
  Calls Tryz.prog 33 #[netI I SA LA OA sn sc ln lc on oc,.slice XA xn xc] w fun e w'=>∃A c,e = .returned (.slice A xn c)∧Own w.heap.size w' A xn c (lnRun l xs)∧Below w.heap.size w w':=by
 have HB0:=Lib.hid (below_new (Below.refl w.heap.size w) (.cells (netIC I SA LA OA sn sc ln lc on oc) 61))
 have HBX:=Lib.hid (heap_new w (.cells (netIC I SA LA OA sn sc ln lc on oc) 61))
 have HN:=Lib.hid h
 have HF:=Lib.hid hf
 have HI:=Lib.hid hI
 have HX:=Lib.hid hx
 have HRT:=Lib.hid (fun k=>lnRun_take l xs k)
 have HRN:Hid (lnRun l xs=(List.range xn).map fun k=>lnOut l (lnSt l xs k) (xs[k]?.getD 0)):=by show _=_;unfold lnRun;rw [hx.1]
 have HSA:=Lib.hid (fun k=>stFit_at hf xs k)
 have HST:Hid (∀k,lnSt l xs (k+1)=lnNext l (lnSt l xs k) (xs[k]?.getD 0)):=fun k=>rfl
 have HOK:=Lib.hid (fun (w':World) (hb:Below w.heap.size w w')=>(by
  have hh:=lutNetOk_yes l SA LA OA sn sc ln lc on oc w' (h.below hb) hf
  unfold netV at hh
  rwa [hI] at hh:Calls Tryz.prog 31 #[netI I SA LA OA sn sc ln lc on oc] w' fun e w''=>e = .returned (.bool true)∧Below w'.heap.size w' w''))
 have hsn12:sn≤12:=by have:=hf.nseq;have:=h.lens;omega
 have hd16:decide ((16:Int)<(xn:Int))=false:=decide_eq_false (by omega)
 clear h hf hI hx
 go_enter Tryz.func33,Tryz.ntmps33
 go_wp2_with fail
 refine (HOK.out _ HB0.out).mono ?_
 rintro _ w1 ⟨rfl,b1⟩
 have B1:=Lib.hid (below_tr HB0.out b1)
 have HX1:=Lib.hid (heap_tr b1 HBX.out)
 have x0:=cell_heap (k:=0) HX1.out rfl
 have x1:=cell_heap (k:=1) HX1.out rfl
 have x2:=cell_heap (k:=2) HX1.out rfl
 have x3:=cell_heap (k:=3) HX1.out rfl
 have lx:=heap_lt0 HX1.out
 clear b1
 go_wp2_with fail
 refine (lutStart_any l (I:Int) SA LA OA sn sc ln lc on oc _ (HN.out.below B1.out).sq (by omega)).mono ?_
 rintro _ w2 ⟨TA,tc,rfl,o2,b2⟩
 have HS2:=Lib.hid (((Sepa.refl w1).consOwn b2 o2).pushNil 3 1)
 clear o2 b2 x0 x1 x2 x3 lx
 go_wp2_with fail
 go_loopw [5,6,23] (fun tv v i wr=>∃(k:Nat) (TA:Option Addr) (tc:Nat) (A:Option Addr) (c:Nat),k≤xn∧i = .int .i64 (k:Int)∧tv = .slice TA sn tc∧v = .slice A k c∧Sepa w1 wr [.cel (celI (lnSt l xs k)) (.slice TA sn tc),.cel (celI ((List.range k).map fun k=>lnOut l (lnSt l xs k) (xs[k]?.getD 0))) (.slice A k c)]) (fun _ _ i _=>xn - (intOf i).toNat)
 case atStart=>exact ⟨0,TA,tc,none,0,by omega,rfl,rfl,rfl,HS2.out⟩
 case round =>
  obtain ⟨k,TA,tc,NA,nc,hk,rfl,rfl,rfl,hs⟩:=hrel
  have HSS:=Lib.hid hs
  by_cases hlt:k<xn
  ·have hdk:decide ((k:Int)<(xn:Int))=true:=by simp;omega
   obtain ⟨bt,ot,rfl,hbt,hct⟩:=HX.out.2 (by omega)
   have hck:=((below_tr B1.out hs.bel).cell (p:=⟨bt,ot+k,none⟩) hbt).trans (hct k hlt)
   have lbt:=below_lt (below_tr B1.out hs.bel) hbt
   have HR2:=Lib.hid (HRT.out k)
   have HT2:=Lib.hid (HST.out k)
   have HSF:=Lib.hid (HSA.out k)
   have HX3:=Lib.hid (heap_tr hs.bel HX1.out)
   have x0:=cell_heap (k:=0) HX3.out rfl
   have x1:=cell_heap (k:=1) HX3.out rfl
   have x2:=cell_heap (k:=2) HX3.out rfl
   have x3:=cell_heap (k:=3) HX3.out rfl
   have lx:=heap_lt0 HX3.out
   generalize xs[k]?.getD 0=x at *
   have HSTP:=Lib.hid (lutStep_any l I SA LA OA sn sc ln lc on oc TA tc (lnSt l xs k) x wr (HN.out.below (below_tr B1.out hs.bel)) HF.out HI.out (hs.ints 0 rfl) HSF.out)
   have i0:(0:Int)≤(k:Int):=by omega
   have i1:(k:Int)<(xn:Int):=by omega
   clear hs hct
   go_wp2_with fail
   refine HSTP.out.mono ?_
   rintro _ w5 ⟨UA,uc,rfl,o5,b5⟩
   have HS5:=Lib.hid (HSS.out.tail.consOwn b5 o5)
   clear o5 b5 x0 x1 x2 x3 lx hck
   go_wp2_with (at_builtin;refine wpList_sepPush rfl _ _ rfl _ (HS5.out.alloc _) 1 NA k nc ((List.range k).map fun k=>lnOut l (lnSt l xs k) (xs[k]?.getD 0)) (lnOut l (lnSt l xs k) x) _ (0,0) rfl rfl rfl (heap_new _ _) (by omega) ?_;intro g9 cap w9 S9 hz9;have HS10:=Lib.hid S9;clear S9)
   go_roundw
   case rel=>exact ⟨k+1,UA,uc,_,cap,by omega,by go_num,rfl,rfl,by rw [HR2.out,HT2.out];exact HS10.out⟩
   case measure=>simp [intOf];omega
  ·have hkn:k=xn:=by omega
   have hdk:decide ((k:Int)<(xn:Int))=false:=by simp;omega
   have HFI:=Lib.hid (show Own w.heap.size wr NA xn nc (lnRun l xs) from by
    have h1:=(hs.owned 1 rfl).more B1.out.size
    rw [HRN.out,←hkn]
    exact h1)
   have HFB:=Lib.hid (below_tr B1.out hs.bel)
   clear hs
   subst hkn
   go_wp2_with fail
   go_ret
   exact ⟨NA,nc,rfl,HFI.out,HFB.out⟩
end Go.Proofs.YtignkfhdkcgkgaaGreat
