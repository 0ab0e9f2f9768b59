/- The counts of drivers in the program (printed by mksr5.py). -/
import Derived.Test.YtlinbdkbbhpdpaaGreatSrF4
namespace Go.Proofs.YtlinbdkbbhpdpaaGreat
set_option maxRecDepth 100000
open Go.RowKit

/-- How often each signal is in a list. -/
def cntL' (n:Nat) (l:List Int):List Int:=(List.range n).map fun (s:Nat)=>((l.count (s:Int):Nat):Int)
theorem cntL'_len (n:Nat) (l:List Int):(cntL' n l).length=n:=by simp [cntL']
theorem cntL'_nil (n:Nat):cntL' n []=List.replicate n 0:=by
 apply List.ext_getElem
 ·simp [cntL']
 ·intro j h1 h2
  simp [cntL']
theorem cntL'_get {n s:Nat} (l:List Int) (h:s<n):(cntL' n l)[s]?.getD 0=((l.count (s:Int):Nat):Int):=by
 unfold cntL'
 rw [List.getElem?_map,List.getElem?_range h];rfl
theorem cntL'_in {n s:Nat} (l:List Int) (_h:s<n):(cntL' n l).set s (((l.count (s:Int):Nat):Int)+1)=cntL' n (l++[(s:Int)]):=by
 apply List.ext_getElem
 ·rw [List.length_set,cntL'_len,cntL'_len]
 intro j h1 h2
 rw [cntL'_len] at h2
 have e:(cntL' n (l++[(s:Int)]))[j]=(((l++[(s:Int)]).count (j:Int):Nat):Int):=by simp [cntL']
 have e2:∀h3,(cntL' n l)[j]'h3=((l.count (j:Int):Nat):Int):=fun h3=>by simp [cntL']
 rw [List.getElem_set,e,List.count_append,List.count_singleton]
 by_cases hj:s=j
 ·subst hj
  rw [if_pos rfl,if_pos (by simp)]
  omega
 ·rw [if_neg hj,e2,if_neg (by simp;omega)]
  omega
theorem cntL'_out {n:Nat} (l:List Int) {s:Int} (h:¬(0≤s∧s<n)):cntL' n (l++[s])=cntL' n l:=by
 unfold cntL'
 refine List.map_congr_left fun t ht=>?_
 rw [List.mem_range] at ht
 rw [List.count_append,List.count_singleton,if_neg (by simp;omega)]
 rfl
set_option maxHeartbeats 2000000 in
theorem drvAdd_any (W:World) (ps:List Pc) (i j gb g n:Nat) (l:List Int) (s:Int) (w:World) (h:Sepa W w ps) (hi:ps[i]?=some (.cel (celI (cntL' n l)) (.slice (some ⟨g,0,none⟩) n n))) (hj:ps[j]?=some (.blk gb #[.slice (some ⟨g,0,none⟩) n n] 29)) (hn:n≤1048576) (hl:l.length≤1048576) :
  Calls Tryz.prog 226 #[.int .i64 s,.pointer (some ⟨gb,0,none⟩)] w fun e w'=>e = .returned (.tuple #[])∧Sepa W w' (ps.set i (.cel (celI (cntL' n (l++[s]))) (.slice (some ⟨g,0,none⟩) n n))):=by
 have HS:=Lib.hid h
 have hx:=(h.blk j hj).1
 have x0:=cell_heap (k:=0) hx rfl
 have lx:=heap_lt0 hx
 clear hx
 cases h1:inR s 0 ((n:Int) - 1) with
 | false =>
  have HE:Hid (ps.set i (.cel (celI (cntL' n (l++[s]))) (.slice (some ⟨g,0,none⟩) n n))=ps):=by show _=_;rw [cntL'_out l (fun h=>not_in h1 (by omega))];exact set_same hi
  have H1:=Lib.hid h1
  clear h1 h hi
  go_enter Tryz.func226,Tryz.ntmps226
  go_wp2_with fail
  refine (inRange_any s 0 ((n:Int) - 1) _).mono ?_
  rw [H1.out]
  rintro _ w' ⟨rfl,rfl⟩
  go_wp2_with fail
  go_end0
  exact ⟨rfl,by rw [HE.out];exact HS.out⟩
 | true =>
  have hs:=inR_iff.1 h1
  obtain ⟨k,rfl⟩:∃k:Nat,s=(k:Int):=⟨s.toNat,by omega⟩
  have hk:k<n:=by omega
  obtain ⟨g',hg,hg0,hg1,c0,f0,hup⟩:=h.setI i hi hk
  injection hg with hg
  injection hg with hg _
  subst hg
  rw [cntL'_get l hk] at c0
  have HU:Hid (Sepa W (w.setCell ⟨g,k,none⟩ (.int .i64 (((l.count (k:Int):Nat):Int)+1))) (ps.set i (.cel (celI (cntL' n (l++[(k:Int)]))) (.slice (some ⟨g,0,none⟩) n n)))):=by
   have h2:=hup (((l.count (k:Int):Nat):Int)+1)
   rwa [cntL'_in l hk] at h2
  have hcb:l.count (k:Int)≤1048576:=Nat.le_trans List.count_le_length hl
  have H1:=Lib.hid h1
  generalize l.count (k:Int)=cv at *
  have i0:(0:Int)≤(k:Int):=by omega
  have i1:(k:Int)<(n:Int):=by omega
  clear h1 hup h hi hs
  go_enter Tryz.func226,Tryz.ntmps226
  go_wp2_with fail
  refine (inRange_any (k:Int) 0 ((n:Int) - 1) _).mono ?_
  rw [H1.out]
  rintro _ w' ⟨rfl,rfl⟩
  go_wp2_with fail
  go_end0
  exact ⟨rfl,HU.out⟩
theorem outsTo_len (inner:MdT) (ports:List Int):∀j,(outsTo inner ports j).length≤j
 | 0=>Nat.le_refl _
 | j+1=>by
  have:=outsTo_len inner ports j
  rw [outsTo,List.length_append]
  split
  ·rw [List.length_singleton];omega
  ·rw [List.length_nil];omega
theorem outs3_len {d:List MdT}:∀{l:List InT},(∀x∈l,(portsOf (mdK d x.module.toNat)).length≤30)→(l.flatMap (instOuts d)).length≤l.length * 30
 | [],_=>by simp
 | x :: l,h=>by
  have h1:=outs3_len (d:=d) (l:=l) fun y hy=>h y (by simp [hy])
  have h2:=h x (by simp)
  have h3:=outsTo_len (mdK d x.module.toNat) x.ports (portsOf (mdK d x.module.toNat)).length
  rw [List.flatMap_cons,List.length_append,List.length_cons,Nat.succ_mul]
  unfold instOuts at *
  omega
set_option maxHeartbeats 8000000 in
theorem driverCounts_any (d:List MdT) (DA:Option Addr) (dn dc kk:Nat) (w:World) (h:RdC w w.heap.size (celMd d) (.slice DA dn dc)) (hkk:kk<dn) (_hdn:dn≤4) (hc:CntFit d) (hin:InsFit d kk) :
  Calls Tryz.prog 211 #[.agg #[.slice DA dn dc],.int .i64 (kk:Int)] w fun e w'=>∃A n c,e = .returned (.slice A n c)∧n=(mdK d kk).sigs.length∧Sepa w w' [.cel (celI (cntL' n (drvs d (mdK d kk)))) (.slice A n c)]:=by
 have HDL:=Lib.hid h.mdN
 have HD:=Lib.hid h
 have HIN:=Lib.hid hin
 clear h hin
 obtain ⟨bd,od,SA,AA,JA,MA,sn,sc,an,ac,jn,jc,mn,mc,rfl,hbd,e0,e1,e2,e3,rm⟩:=HD.out.md (k:=kk) hkk
 have HM:=Lib.hid rm
 clear rm
 have hcn:=hc.2 kk (by rw [HDL.out];exact hkk)
 have hs30:sn≤30:=by have h1:=hcn.sg;rw [HM.out.lens.1] at h1;exact h1
 have ha30:an≤30:=by have h1:=hcn.asg;rw [HM.out.lens.2.1] at h1;exact h1
 have hj3:jn≤3:=by have h1:=hcn.ins;rw [HM.out.lens.2.2.1] at h1;exact h1
 have hm2:mn≤2:=by have h1:=hcn.mm;rw [HM.out.lens.2.2.2] at h1;exact h1
 clear hcn hc
 have HB0:=Lib.hid (below_new (Below.refl w.heap.size w) (.cells #[.slice (some ⟨bd,od,none⟩) dn dc] 48))
 have HXB:=Lib.hid (heap_new w (.cells #[.slice (some ⟨bd,od,none⟩) dn dc] 48))
 rw [←HB0.out.cell (p:=⟨bd,od+kk * 4,none⟩) hbd] at e0
 rw [←HB0.out.cell (p:=⟨bd,od+kk * 4+1,none⟩) hbd] at e1
 rw [←HB0.out.cell (p:=⟨bd,od+kk * 4+2,none⟩) hbd] at e2
 rw [←HB0.out.cell (p:=⟨bd,od+kk * 4+3,none⟩) hbd] at e3
 have lbd:=below_lt HB0.out hbd
 have k0:(0:Int)≤(kk:Int):=by omega
 have k1:(kk:Int)<(dn:Int):=by omega
 obtain ⟨i0,hi,hz0,hz1,hz2⟩:=info_parts int_info
 have hmk:=fun W=>run_make_rowN (P:=Tryz.prog) 29 3 i0 _ Tryz.underlying29 hi hz0 .i64 .i64 sn sn (Nat.le_refl _) (by rw [hz2];omega) (by omega) W
 rw [hz1,Nat.mul_one,show (Value.int .i64 0).cells=#[Value.int .i64 0] from rfl,arr_made] at hmk
 clear hi hz0 hz1 hz2
 have hmf:∀(fn:Fn) (first cap:Array Value) (w:World),(Instr.makeFunc fn first cap).run Tryz.prog w = .ok (.func fn first cap) w:=fun _ _ _ _=>rfl
 go_enter Tryz.func211,Tryz.ntmps211
 go_upto_region 1 with fail
 generalize w.alloc (.cells #[.slice (some ⟨bd,od,none⟩) dn dc] 48)=W9 at *
 have hx:=HXB.out
 have x0:=cell_heap (k:=0) hx rfl
 have lx:=heap_lt0 hx
 clear hx
 have HB8:=Lib.hid (below_new HB0.out (.cells #[.slice SA sn sc,.slice AA an ac,.slice JA jn jc,.slice MA mn mc] 108))
 have hm:=heap_new W9 (.cells #[.slice SA sn sc,.slice AA an ac,.slice JA jn jc,.slice MA mn mc] 108)
 have HXM:=Lib.hid hm
 have HXD:=Lib.hid (heap_al (.cells #[.slice SA sn sc,.slice AA an ac,.slice JA jn jc,.slice MA mn mc] 108) HXB.out)
 have m0:=cell_heap (k:=0) hm rfl
 have m1:=cell_heap (k:=1) hm rfl
 have lm:=heap_lt0 hm
 clear hm
 go_upto_region 2 with fail
 obtain ⟨gM,hgM⟩:∃g,W9.heap.size=g:=⟨_,rfl⟩
 rw [hgM] at HXM
 rw [hgM] at m0
 rw [hgM] at m1
 (try rw [hgM])
 clear hgM
 generalize W9.alloc (.cells #[.slice SA sn sc,.slice AA an ac,.slice JA jn jc,.slice MA mn mc] 108)=W8 at *
 clear x0 lx e0 e1 e2 e3
 have hs1:=((Sepa.refl W8).consOwn (below_new (Below.refl _ _) (.cells (arr (List.replicate sn 0)) 3)) (Own.arr (n:=sn) (heap_new W8 _) (Nat.le_refl _) (by unfold maxLen;omega) (by simp))).pushBlk #[.slice (some ⟨W8.heap.size,0,none⟩) sn sn] 29
 rw [show (W8.alloc (.cells (arr (List.replicate sn 0)) 3)).heap.size=W8.heap.size+1 from by simp] at hs1
 have HS0:Hid (Sepa W8 ((W8.alloc (.cells (arr (List.replicate sn 0)) 3)).alloc (.cells #[.slice (some ⟨W8.heap.size,0,none⟩) sn sn] 29)) [.cel (celI (cntL' sn [])) (.slice (some ⟨W8.heap.size,0,none⟩) sn sn),.blk (W8.heap.size+1) #[.slice (some ⟨W8.heap.size,0,none⟩) sn sn] 29]):=by
  show Sepa W8 _ _
  rw [cntL'_nil]
  exact hs1
 clear hs1
 go_upto_region 3 with fail
 (try rw [show (W8.alloc (.cells (arr (List.replicate sn 0)) 3)).heap.size=W8.heap.size+1 from by simp])
 generalize (W8.alloc (.cells (arr (List.replicate sn 0)) 3)).alloc (.cells #[.slice (some ⟨W8.heap.size,0,none⟩) sn sn] 29)=W7 at *
 clear m0 m1 lm hmk
 obtain ⟨g,hg⟩:∃g,W8.heap.size=g:=⟨_,rfl⟩
 rw [hg] at HS0
 (try rw [hg])
 clear hg
 have HS:=HS0
 clear HS0
 have hx:=heap_tr HS.out.bel HXM.out
 have x1:=cell_heap (k:=1) hx rfl
 have lx:=heap_lt0 hx
 clear hx
 go_wp2_with fail
 clear x1 lx
 go_loopw [30] (fun i wr=>∃k:Nat,k≤an∧i = .int .i64 (k:Int)∧Sepa W8 wr [.cel (celI (cntL' sn (((mdK d kk).asgs.take k).map AsT.target))) (.slice (some ⟨g,0,none⟩) sn sn),.blk (g+1) #[.slice (some ⟨g,0,none⟩) sn sn] 29]) (fun i _=>an - (intOf i).toNat)
 case atStart=>exact ⟨0,by omega,rfl,HS.out⟩
 case round =>
  obtain ⟨k,hk,rfl,hs⟩:=hrel
  have HS:=Lib.hid hs
  have HB:=Lib.hid (below_tr HB8.out hs.bel)
  clear hs
  by_cases hlt:k<an
  ·have hdk:decide ((k:Int)<(an:Int))=true:=by simp;omega
   have i0:(0:Int)≤(k:Int):=by omega
   have i1:(k:Int)<(an:Int):=by omega
   have hkl:k<(mdK d kk).asgs.length:=by rw [HM.out.lens.2.1];exact hlt
   obtain ⟨ba,oa,QA,qn,qc,rfl,hba,c0,c1,r0⟩:=HM.out.asg.asE (k:=k) hkl
   rw [←HB.out.cell (p:=⟨ba,oa+k * 2,none⟩) hba] at c0
   rw [←HB.out.cell (p:=⟨ba,oa+k * 2+1,none⟩) hba] at c1
   have lba:=below_lt HB.out hba
   have HLL:Hid ((((mdK d kk).asgs.take k).map AsT.target).length≤1048576):=by show _≤_;rw [List.length_map,List.length_take];omega
   have HTK:Hid (((mdK d kk).asgs.take (k+1)).map AsT.target=((mdK d kk).asgs.take k).map AsT.target++[((mdK d kk).asgs[k]?.getD AsT.zero).target]):=by show _=_;rw [take_snoc (z:=AsT.zero) hkl,List.map_append];rfl
   generalize ((mdK d kk).asgs[k]?.getD AsT.zero).target=tg at *
   clear hkl hba r0
   have HA:=Lib.hid (HS.out.alloc (.cells #[.int .i64 tg,.slice QA qn qc] 196))
   have hy:=heap_new wr (.cells #[.int .i64 tg,.slice QA qn qc] 196)
   have y0:=cell_heap (k:=0) hy rfl
   have ly:=heap_lt0 hy
   clear hy
   go_upto_region 7 with fail
   generalize wr.alloc (.cells #[.int .i64 tg,.slice QA qn qc] 196)=W5 at *
   go_wp2_with fail
   refine (drvAdd_any W8 [.cel (celI (cntL' sn (((mdK d kk).asgs.take k).map AsT.target))) (.slice (some ⟨g,0,none⟩) sn sn),.blk (g+1) #[.slice (some ⟨g,0,none⟩) sn sn] 29] 0 1 (g+1) g sn (((mdK d kk).asgs.take k).map AsT.target) tg _ HA.out rfl rfl (by omega) HLL.out).mono ?_
   rintro _ w6 ⟨rfl,s6⟩
   have HS6:=Lib.hid s6
   clear s6
   go_wp2_with fail
   go_roundw
   case rel=>exact ⟨k+1,by omega,by go_num,by rw [HTK.out];exact HS6.out⟩
   case measure=>simp [intOf];omega
  ·have hkn:k=an:=by omega
   have hdk:decide ((k:Int)<(an:Int))=false:=by simp;omega
   clear hlt
   subst k
   have HE:Hid (((mdK d kk).asgs.take an).map AsT.target=(mdK d kk).asgs.map AsT.target++((mdK d kk).mems.take 0).map MmT.out):=by show _=_;rw [List.take_of_length_le (by rw [HM.out.lens.2.1];exact Nat.le_refl _),List.take_zero,List.map_nil,List.append_nil]
   rw [HE.out] at HS
   clear HE
   have hx:=heap_tr HS.out.bel HXM.out
   have x3:=cell_heap (k:=3) hx rfl
   have lx:=heap_lt0 hx
   clear hx
   go_wp2_with fail
   clear x3 lx
   go_loopw [42] (fun i wr=>∃k:Nat,k≤mn∧i = .int .i64 (k:Int)∧Sepa W8 wr [.cel (celI (cntL' sn ((mdK d kk).asgs.map AsT.target++((mdK d kk).mems.take k).map MmT.out))) (.slice (some ⟨g,0,none⟩) sn sn),.blk (g+1) #[.slice (some ⟨g,0,none⟩) sn sn] 29]) (fun i _=>mn - (intOf i).toNat)
   case atStart=>exact ⟨0,by omega,rfl,HS.out⟩
   case round =>
    obtain ⟨k,hk,rfl,hs⟩:=hrel
    have HS:=Lib.hid hs
    have HB:=Lib.hid (below_tr HB8.out hs.bel)
    clear hs
    by_cases hlt:k<mn
    ·have hdk:decide ((k:Int)<(mn:Int))=true:=by simp;omega
     have i0:(0:Int)≤(k:Int):=by omega
     have i1:(k:Int)<(mn:Int):=by omega
     have hkl:k<(mdK d kk).mems.length:=by rw [HM.out.lens.2.2.2];exact hlt
     obtain ⟨bm,om,rfl,hbm,c0,c1,c2,c3⟩:=HM.out.mm.mmE (k:=k) hkl
     rw [←HB.out.cell (p:=⟨bm,om+k * 4,none⟩) hbm] at c0
     rw [←HB.out.cell (p:=⟨bm,om+k * 4+1,none⟩) hbm] at c1
     rw [←HB.out.cell (p:=⟨bm,om+k * 4+2,none⟩) hbm] at c2
     rw [←HB.out.cell (p:=⟨bm,om+k * 4+3,none⟩) hbm] at c3
     have lbm:=below_lt HB.out hbm
     have HLL:Hid (((mdK d kk).asgs.map AsT.target++((mdK d kk).mems.take k).map MmT.out).length≤1048576):=by show _≤_;rw [List.length_append,List.length_map,List.length_map,List.length_take,HM.out.lens.2.1];omega
     have HTK:Hid ((mdK d kk).asgs.map AsT.target++((mdK d kk).mems.take (k+1)).map MmT.out=(mdK d kk).asgs.map AsT.target++((mdK d kk).mems.take k).map MmT.out++[((mdK d kk).mems[k]?.getD MmT.zero).out]):=by show _=_;rw [take_snoc (z:=MmT.zero) hkl,List.map_append,List.append_assoc];rfl
     generalize (mdK d kk).mems[k]?.getD MmT.zero=q at *
     obtain ⟨ma,md,mw,mo⟩:=q
     simp only at c0 c1 c2 c3 HTK
     clear hkl hbm
     have HA:=Lib.hid (HS.out.alloc (.cells #[.int .i64 ma,.int .i64 md,.int .i64 mw,.int .i64 mo] 200))
     have hy:=heap_new wr (.cells #[.int .i64 ma,.int .i64 md,.int .i64 mw,.int .i64 mo] 200)
     have y3:=cell_heap (k:=3) hy rfl
     have ly:=heap_lt0 hy
     clear hy
     go_upto_region 12 with fail
     generalize wr.alloc (.cells #[.int .i64 ma,.int .i64 md,.int .i64 mw,.int .i64 mo] 200)=W5 at *
     go_wp2_with fail
     refine (drvAdd_any W8 [.cel (celI (cntL' sn ((mdK d kk).asgs.map AsT.target++((mdK d kk).mems.take k).map MmT.out))) (.slice (some ⟨g,0,none⟩) sn sn),.blk (g+1) #[.slice (some ⟨g,0,none⟩) sn sn] 29] 0 1 (g+1) g sn ((mdK d kk).asgs.map AsT.target++((mdK d kk).mems.take k).map MmT.out) mo _ HA.out rfl rfl (by omega) HLL.out).mono ?_
     rintro _ w6 ⟨rfl,s6⟩
     have HS6:=Lib.hid s6
     clear s6
     go_wp2_with fail
     go_roundw
     case rel=>exact ⟨k+1,by omega,by go_num,by rw [HTK.out];exact HS6.out⟩
     case measure=>simp [intOf];omega
    ·have hkn:k=mn:=by omega
     have hdk:decide ((k:Int)<(mn:Int))=false:=by simp;omega
     clear hlt
     subst k
     have HE:Hid ((mdK d kk).asgs.map AsT.target++((mdK d kk).mems.take mn).map MmT.out=(mdK d kk).asgs.map AsT.target++(mdK d kk).mems.map MmT.out++((mdK d kk).insts.take 0).flatMap (instOuts d)):=by show _=_;rw [List.take_of_length_le (by rw [HM.out.lens.2.2.2];exact Nat.le_refl _),List.take_zero,List.flatMap_nil,List.append_nil]
     rw [HE.out] at HS
     clear HE
     have hx:=heap_tr HS.out.bel HXM.out
     have x2:=cell_heap (k:=2) hx rfl
     have lx:=heap_lt0 hx
     clear hx
     go_wp2_with fail
     clear x2 lx
     go_loopw [54] (fun i wr=>∃k:Nat,k≤jn∧i = .int .i64 (k:Int)∧Sepa W8 wr [.cel (celI (cntL' sn ((mdK d kk).asgs.map AsT.target++(mdK d kk).mems.map MmT.out++((mdK d kk).insts.take k).flatMap (instOuts d)))) (.slice (some ⟨g,0,none⟩) sn sn),.blk (g+1) #[.slice (some ⟨g,0,none⟩) sn sn] 29]) (fun i _=>jn - (intOf i).toNat)
     case atStart=>exact ⟨0,by omega,rfl,HS.out⟩
     case round =>
      obtain ⟨k,hk,rfl,hs⟩:=hrel
      have HS:=Lib.hid hs
      have HB:=Lib.hid (below_tr HB8.out hs.bel)
      clear hs
      by_cases hlt:k<jn
      ·have hdk:decide ((k:Int)<(jn:Int))=true:=by simp;omega
       have i0:(0:Int)≤(k:Int):=by omega
       have i1:(k:Int)<(jn:Int):=by omega
       have hkl:k<(mdK d kk).insts.length:=by rw [HM.out.lens.2.2.1];exact hlt
       have hkl2:=Lib.hid hkl
       obtain ⟨bi,oi,PA,pn,pc,rfl,hbi,c0,c1,c2,r0⟩:=HM.out.ins.inE (k:=k) hkl
       rw [←HB.out.cell (p:=⟨bi,oi+k * 3,none⟩) hbi] at c0
       rw [←HB.out.cell (p:=⟨bi,oi+k * 3+1,none⟩) hbi] at c1
       rw [←HB.out.cell (p:=⟨bi,oi+k * 3+2,none⟩) hbi] at c2
       have lbi:=below_lt HB.out hbi
       have HR0:=Lib.hid r0
       have hin:=HIN.out k hkl
       obtain ⟨q,hq⟩:∃q,(mdK d kk).insts[k]?.getD InT.zero=q:=⟨_,rfl⟩
       rw [hq] at c0 c1 HR0 hin
       have HQE:=Lib.hid hq
       clear hkl hbi r0 hq
       obtain ⟨mo,pa,po⟩:=q
       simp only at c0 c1 c2 HR0
       obtain ⟨hm1,hm2⟩:=hin
       simp only at hm1 hm2
       obtain ⟨M,rfl⟩:∃M:Nat,mo=(M:Int):=⟨mo.toNat,by omega⟩
       rw [Int.toNat_natCast] at hm2
       have hpn:=HR0.out.ints.1
       have hpl:=portsOf_len (mdK d M)
       obtain ⟨bd2,od2,SA2,AA2,JA2,MA2,sn2,sc2,an2,ac2,jn2,jc2,mn2,mc2,hDA2,hbd2,e02,e12,e22,e32,rm2⟩:=HD.out.md (k:=M) (by omega)
       have HM2:=Lib.hid rm2
       clear rm2
       injection hDA2 with hDA2
       injection hDA2 with hDA2 hDA3
       subst hDA2 hDA3
       rw [←HB.out.cell (p:=⟨bd,od+M * 4,none⟩) hbd2] at e02
       rw [←HB.out.cell (p:=⟨bd,od+M * 4+1,none⟩) hbd2] at e12
       rw [←HB.out.cell (p:=⟨bd,od+M * 4+2,none⟩) hbd2] at e22
       rw [←HB.out.cell (p:=⟨bd,od+M * 4+3,none⟩) hbd2] at e32
       have lbd2:=below_lt HB.out hbd2
       have i2:(0:Int)≤(M:Int):=by omega
       have i3:(M:Int)<(dn:Int):=by omega
       have HL4:Hid (∀j,j≤(portsOf (mdK d M)).length→(((mdK d kk).asgs.map AsT.target++(mdK d kk).mems.map MmT.out++((mdK d kk).insts.take k).flatMap (instOuts d))++outsTo (mdK d M) po j).length≤1048576):=fun j hj=>by
        show _≤_
        rw [List.length_append,List.length_append,List.length_append,List.length_map,List.length_map,HM.out.lens.2.1,HM.out.lens.2.2.2]
        have h1:=outs3_len (d:=d) (l:=(mdK d kk).insts.take k) fun x hx=>portsOf_len _
        have h2:=outsTo_len (mdK d M) po j
        rw [List.length_take] at h1
        omega
       have HA:=Lib.hid (HS.out.pushBlk #[.int .i64 (M:Int),.int .i64 pa,.slice PA pn pc] 202)
       have hy:=heap_new wr (.cells #[.int .i64 (M:Int),.int .i64 pa,.slice PA pn pc] 202)
       have y0:=cell_heap (k:=0) hy rfl
       have y1:=cell_heap (k:=1) hy rfl
       have y2:=cell_heap (k:=2) hy rfl
       have ly:=heap_lt0 hy
       have hx:=heap_al (.cells #[.int .i64 (M:Int),.int .i64 pa,.slice PA pn pc] 202) (heap_tr HS.out.bel HXD.out)
       have x0:=cell_heap (k:=0) hx rfl
       have lx:=heap_lt0 hx
       clear hx hy
       rw [←(below_new (Below.refl wr.heap.size wr) (.cells #[.int .i64 (M:Int),.int .i64 pa,.slice PA pn pc] 202)).cell (p:=⟨bd,od+M * 4,none⟩) lbd2] at e02
       rw [←(below_new (Below.refl wr.heap.size wr) (.cells #[.int .i64 (M:Int),.int .i64 pa,.slice PA pn pc] 202)).cell (p:=⟨bd,od+M * 4+1,none⟩) lbd2] at e12
       rw [←(below_new (Below.refl wr.heap.size wr) (.cells #[.int .i64 (M:Int),.int .i64 pa,.slice PA pn pc] 202)).cell (p:=⟨bd,od+M * 4+2,none⟩) lbd2] at e22
       rw [←(below_new (Below.refl wr.heap.size wr) (.cells #[.int .i64 (M:Int),.int .i64 pa,.slice PA pn pc] 202)).cell (p:=⟨bd,od+M * 4+3,none⟩) lbd2] at e32
       have lbd3:=below_lt (below_new (Below.refl wr.heap.size wr) (.cells #[.int .i64 (M:Int),.int .i64 pa,.slice PA pn pc] 202)) lbd2
       go_upto_region 17 with fail
       obtain ⟨gI,hgI⟩:∃g,wr.heap.size=g:=⟨_,rfl⟩
       rw [hgI] at HA
       rw [hgI] at y0
       rw [hgI] at y1
       rw [hgI] at y2
       (try rw [hgI] at ly)
       (try rw [hgI])
       clear hgI
       generalize wr.alloc (.cells #[.int .i64 (M:Int),.int .i64 pa,.slice PA pn pc] 202)=W5 at *
       have HA2:=Lib.hid (HA.out.pushBlk #[.slice SA2 sn2 sc2,.slice AA2 an2 ac2,.slice JA2 jn2 jc2,.slice MA2 mn2 mc2] 108)
       have hu:=heap_new W5 (.cells #[.slice SA2 sn2 sc2,.slice AA2 an2 ac2,.slice JA2 jn2 jc2,.slice MA2 mn2 mc2] 108)
       have u0:=cell_heap (k:=0) hu rfl
       have u1:=cell_heap (k:=1) hu rfl
       have u2:=cell_heap (k:=2) hu rfl
       have u3:=cell_heap (k:=3) hu rfl
       have lu:=heap_lt0 hu
       clear hu
       go_upto_region 18 with fail
       obtain ⟨gN,hgN⟩:∃g,W5.heap.size=g:=⟨_,rfl⟩
       rw [hgN] at HA2
       rw [hgN] at u0
       rw [hgN] at u1
       rw [hgN] at u2
       rw [hgN] at u3
       (try rw [hgN])
       clear hgN
       generalize W5.alloc (.cells #[.slice SA2 sn2 sc2,.slice AA2 an2 ac2,.slice JA2 jn2 jc2,.slice MA2 mn2 mc2] 108)=W6 at *
       clear y0 y1 y2 ly x0 lx e02 e12 e22 e32 lbd3
       go_wp2_with fail
       refine (portsOf_any (mdK d M) SA2 AA2 JA2 MA2 sn2 sc2 an2 ac2 jn2 jc2 mn2 mc2 _ (HM2.out.below (below_tr HB8.out HA2.out.bel))).mono ?_
       rintro _ w4 ⟨A4,n4,rfl,S4⟩
       have HT:=Lib.hid (HA2.out.join S4)
       clear S4 u0 u1 u2 u3
       go_wp2_with fail
       go_loopw [67] (fun i wr=>∃j:Nat,j≤(portsOf (mdK d M)).length∧i = .int .i64 (j:Int)∧Sepa W8 wr [.cel (celI (cntL' sn (((mdK d kk).asgs.map AsT.target++(mdK d kk).mems.map MmT.out++((mdK d kk).insts.take k).flatMap (instOuts d))++outsTo (mdK d M) po j))) (.slice (some ⟨g,0,none⟩) sn sn),.blk (g+1) #[.slice (some ⟨g,0,none⟩) sn sn] 29,.blk gI #[.int .i64 (M:Int),.int .i64 pa,.slice PA pn pc] 202,.blk gN #[.slice SA2 sn2 sc2,.slice AA2 an2 ac2,.slice JA2 jn2 jc2,.slice MA2 mn2 mc2] 108,.cel (celI (portsOf (mdK d M))) (.slice A4 (portsOf (mdK d M)).length n4)]) (fun i _=>(portsOf (mdK d M)).length - (intOf i).toNat)
       case atStart=>exact ⟨0,by omega,rfl,by rw [outsTo,List.append_nil];exact HT.out⟩
       case round =>
        obtain ⟨j,hj,rfl,hs⟩:=hrel
        have HS:=Lib.hid hs
        have HB:=Lib.hid (below_tr HB8.out hs.bel)
        clear hs
        by_cases hltj:j<(portsOf (mdK d M)).length
        ·have hdj:decide ((j:Int)<((portsOf (mdK d M)).length:Int))=true:=by simp;omega
         have j0:(0:Int)≤(j:Int):=by omega
         have j1:(j:Int)<((portsOf (mdK d M)).length:Int):=by omega
         have hjn:j<(portsOf (mdK d M)).length:=hltj
         have hpp:=portsOf_at hjn
         have hpi:=(HS.out.ints 4 rfl)
         obtain ⟨bp,op,rfl,hbp,hcp⟩:=hpi.2 (by omega)
         have cp:=hcp j hltj
         clear hcp hpi
         obtain ⟨bw,ow,rfl,hbw,hcw⟩:=HR0.out.ints.2 (by omega)
         have cw:=(HB.out.cell (p:=⟨bw,ow+j,none⟩) hbw).trans (hcw j (by omega))
         have lbw:=below_lt HB.out hbw
         clear hcw hbw
         obtain ⟨Q,hQ⟩:∃Q:Nat,(portsOf (mdK d M))[j]?.getD 0=(Q:Int):=⟨((portsOf (mdK d M))[j]?.getD 0).toNat,by omega⟩
         rw [hQ] at hpp cp
         have HTJ:Hid (outsTo (mdK d M) po (j+1)=outsTo (mdK d M) po j++if (sgK (mdK d M).sigs Q).kind=1 then [po[j]?.getD 0] else []):=by show _=_;rw [outsTo,hQ,Int.toNat_natCast]
         have hQs:Q<sn2:=by have h1:=HM2.out.lens.1;omega
         obtain ⟨bs,os,rfl,hbs,z0,z1,z2⟩:=HM2.out.sg.sgE (k:=Q) (by rw [HM2.out.lens.1];exact hQs)
         have z0:=(HB.out.cell (p:=⟨bs,os+Q * 3,none⟩) hbs).trans z0
         have lbs:=below_lt HB.out hbs
         have HKD:Hid ((sgK (mdK d M).sigs Q).kind=((mdK d M).sigs[Q]?.getD SgT.zero).kind):=rfl
         rw [HKD.out] at HTJ
         generalize ((mdK d M).sigs[Q]?.getD SgT.zero).kind=kd at *
         obtain ⟨pj,hpj⟩:∃p,po[j]?.getD 0=p:=⟨_,rfl⟩
         rw [hpj] at cw HTJ
         clear hQ hpj z1 z2 hbs
         have q0:(0:Int)≤(Q:Int):=by omega
         have q1:(Q:Int)<(sn2:Int):=by omega
         have j2:(j:Int)<(pn:Int):=by omega
         have HLL:Hid ((((mdK d kk).asgs.map AsT.target++(mdK d kk).mems.map MmT.out++((mdK d kk).insts.take k).flatMap (instOuts d))++outsTo (mdK d M) po j).length≤1048576):=HL4.out j (by omega)
         have hbI:=(HS.out.blk 2 rfl).1
         have hbN:=(HS.out.blk 3 rfl).1
         have y2:=cell_heap (k:=2) hbI rfl
         have u0:=cell_heap (k:=0) hbN rfl
         have lI:=heap_lt0 hbI
         have lN:=heap_lt0 hbN
         clear hbI hbN
         by_cases h1:kd=1
         ·have d1:(kd==1)=true:=by simp [h1]
          rw [if_pos h1] at HTJ
          clear h1
          go_wp2_with fail
          refine (drvAdd_any W8 [.cel (celI (cntL' sn (((mdK d kk).asgs.map AsT.target++(mdK d kk).mems.map MmT.out++((mdK d kk).insts.take k).flatMap (instOuts d))++outsTo (mdK d M) po j))) (.slice (some ⟨g,0,none⟩) sn sn),.blk (g+1) #[.slice (some ⟨g,0,none⟩) sn sn] 29,.blk gI #[.int .i64 (M:Int),.int .i64 pa,.slice (some ⟨bw,ow,none⟩) pn pc] 202,.blk gN #[.slice (some ⟨bs,os,none⟩) sn2 sc2,.slice AA2 an2 ac2,.slice JA2 jn2 jc2,.slice MA2 mn2 mc2] 108,.cel (celI (portsOf (mdK d M))) (.slice (some ⟨bp,op,none⟩) (portsOf (mdK d M)).length n4)] 0 1 (g+1) g sn (((mdK d kk).asgs.map AsT.target++(mdK d kk).mems.map MmT.out++((mdK d kk).insts.take k).flatMap (instOuts d))++outsTo (mdK d M) po j) pj _ HS.out rfl rfl (by omega) HLL.out).mono ?_
          rintro _ w6 ⟨rfl,s6⟩
          have HS6:=Lib.hid s6
          clear s6
          go_wp2_with fail
          go_roundw
          case rel=>exact ⟨j+1,by omega,by go_num,by rw [HTJ.out,←List.append_assoc];exact HS6.out⟩
          case measure=>simp [intOf];omega
         ·have d1:(kd==1)=false:=by simp [h1]
          rw [if_neg h1,List.append_nil] at HTJ
          clear h1
          go_wp2_with fail
          go_roundw
          case rel=>exact ⟨j+1,by omega,by go_num,by rw [HTJ.out];exact HS.out⟩
          case measure=>simp [intOf];omega
        ·have hjn:j=(portsOf (mdK d M)).length:=by omega
         have hdj:decide ((j:Int)<((portsOf (mdK d M)).length:Int))=false:=by simp;omega
         clear hltj
         subst j
         have HTK:Hid ((mdK d kk).asgs.map AsT.target++(mdK d kk).mems.map MmT.out++((mdK d kk).insts.take (k+1)).flatMap (instOuts d)=((mdK d kk).asgs.map AsT.target++(mdK d kk).mems.map MmT.out++((mdK d kk).insts.take k).flatMap (instOuts d))++outsTo (mdK d M) po (portsOf (mdK d M)).length):=by
          show _=_
          rw [take_snoc (z:=InT.zero) hkl2.out,List.flatMap_append,List.flatMap_singleton,←List.append_assoc,HQE.out]
          show _++instOuts d ⟨(M:Int),pa,po⟩=_
          unfold instOuts
          rw [Int.toNat_natCast]
         go_wp2_with fail
         go_roundw
         case rel=>exact ⟨k+1,by omega,by go_num,by rw [HTK.out];exact HS.out.sub (.cons_cons _ (.cons_cons _ (.cons _ (.cons _ (.cons _ .slnil)))))⟩
         case measure=>simp [intOf];omega
      ·have hkn:k=jn:=by omega
       have hdk:decide ((k:Int)<(jn:Int))=false:=by simp;omega
       clear hlt
       subst k
       have HR:Hid (drvs d (mdK d kk)=(mdK d kk).asgs.map AsT.target++(mdK d kk).mems.map MmT.out++((mdK d kk).insts.take jn).flatMap (instOuts d)):=by show _=_;unfold drvs;rw [List.take_of_length_le (by rw [HM.out.lens.2.2.1];exact Nat.le_refl _)]
       have hb:=(HS.out.blk 1 rfl).1
       have b0:=cell_heap (k:=0) hb rfl
       have lb:=heap_lt0 hb
       clear hb
       go_wp2_with fail
       go_ret
       exact ⟨_,sn,_,rfl,HM.out.lens.1.symm,by rw [HR.out];exact (HS.out.low HB8.out).sub (.cons_cons _ (.cons _ .slnil))⟩
end Go.Proofs.YtlinbdkbbhpdpaaGreat
