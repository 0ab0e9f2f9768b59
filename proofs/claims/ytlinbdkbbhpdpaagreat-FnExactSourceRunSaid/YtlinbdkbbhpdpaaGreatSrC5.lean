/- A list of numbers appended to a row of numbers among the pieces. The first state of a flat module and the values of all signals in a cycle, in the reference (printed by mkcy3.py). One cycle of a flat module in the reference (printed by mkcy5.py). -/
import Derived.Test.YtlinbdkbbhpdpaaGreatCopy
import Derived.Test.YtlinbdkbbhpdpaaGreatSep
import Derived.Test.YtlinbdkbbhpdpaaGreatSrC2
import Derived.Test.YtlinbdkbbhpdpaaGreatSrR
import Derived.Test.YtlinbdkbbhpdpaaGreatSrS8
namespace Go.Proofs.YtlinbdkbbhpdpaaGreat
set_option maxRecDepth 100000
open Go.RowKit

theorem run_append_none {P:Program} (w:World) (base:Nat) (t ty e:TypeId) (i:TypeInfo) (size:Nat) (ht:P.underlying t=some (.slice e)) (hi:P.info? e=some i)
  (v:Value) (n:Nat) (xs:List Value) (hown:w.ownsRow base e size v n xs) (B:Option Addr) (c:Nat):(Builtin.append_ #[t,t] ty #[v,.slice B 0 c]).run P w = .ok v w:=by
 cases B with
 | none=>exact run_append_of_nil w base t ty e i size ht hi v n xs hown c
 | some ad =>
  rcases hown.2 with ⟨rfl,rfl⟩|⟨g,cap,cur,rfl,_,_,hnc,_⟩
  ·simp [Builtin.append_,run_underlying ht,sizeOf,typeInfo,hi,Builtin.lenOf,Builtin.firstCells,loadCells,loadCellsFrom]
  ·simp [Builtin.append_,run_underlying ht,sizeOf,typeInfo,hi,Builtin.lenOf,Builtin.firstCells,hnc,storeCells,loadCells,loadCellsFrom]
section
variable {ops:Array Oper} {rest:List Oper} {o:Oper} {a:Act} {Q:Exit→Act→World→Prop} {K:Act→World→Prop} {E:Prop} {w W:World}
theorem wp_sepList (s x:Operand)
  (ho:o.op = .call { callee := .builtin .append,args:=#[s,x],argTypes:=#[29,29] })
  (ps:List Pc) (S:Sepa W w ps) (i:Nat) (A:Option Addr) (n c:Nat) (xs:List Int) (B:Option Addr) (m d:Nat) (ys:List Int) (hi:ps[i]?=some (.cel (celI xs) (.slice A n c))) (hs:a.eval s = .slice A n c) (hx:a.eval x = .slice B m d) (hr:Ints w B m ys)
  (hn:n+m≤1099511627776)
  (h:∀A' c' w',Sepa W w' (ps.set i (.cel (celI (xs++ys)) (.slice A' (n+m) c')))→w.heap.size≤w'.heap.size→K (a.put o.dst (.slice A' (n+m) c')) w'):Oper.wp Tryz.prog o a w K Q:=by
 obtain ⟨i0,hi0,hz0,hz1,hz2⟩:=info_parts int_info
 rcases Nat.eq_zero_or_pos m with h0|h0
 ·subst h0
  have hy:ys=[]:=List.eq_nil_of_length_eq_zero hr.1
  subst hy
  have hrun:=run_append_none (P:=Tryz.prog) w 0 29 o.type 3 i0 1 Tryz.underlying29 hi0 _ _ _ (sepInts_own ps S i n c A xs hi) B d
  have hset:ps.set i (.cel (celI (xs++[])) (.slice A (n+0) c))=ps:=by
   rw [List.append_nil]
   refine List.ext_getElem? fun j=>?_
   rw [List.getElem?_set]
   split
   ·rename_i e
    subst e
    split
    ·exact hi.symm
    ·rename_i hlt;rw [List.getElem?_eq_none (by omega)]
   ·rfl
  unfold Oper.wp execOp
  simp only [ho,resolve,invoke,builtin,Sem.run_bind,Sem.run_pure,Result.andThen_ok,List.map_toArray,List.map_cons,List.map_nil,hs,hx,hrun]
  exact h A c w (by rw [hset];exact S) (Nat.le_refl _)
 ·obtain ⟨b,o',rfl,_,hc⟩:=hr.2 h0
  refine wp_append_lies w s x 29 ho 0 3 i0 (.int .i64 0) 1 8 Tryz.underlying29 hi0 hz0 hz1 hz2 rfl (by omega) (.slice A n c) n (xs.map (Value.int .i64)) hs (sepInts_own ps S i n c A xs hi) ⟨b,o',none⟩ m d (ys.map (Value.int .i64)) hx (by simp [hr.1])
   (fun j u hu=>?_) (fun u hu=>by simp at hu;obtain ⟨y,_,rfl⟩:=hu;rfl) h0 (by unfold maxLen;omega) (by omega) (Nat.zero_le _) _ rfl
   fun g cap w' g1 g2 g3 _=>by rw [ownBlock_slice] at g2 g3;exact h _ cap w' (sepInts_post ps S i n (n+m) c A xs ys hi g1 g2 g3) g2.size
  have hj:j<m:=by
   have:=(List.getElem?_eq_some_iff.1 hu).1
   simpa [hr.1] using this
  rw [Addr.add_lit,hc j hj]
  have:j<ys.length:=by rw [hr.1];exact hj
  simp [this] at hu
  simp [this,←hu]
theorem wpList_sepList (hgd:o.guard=none) (s x:Operand)
  (ho:o.op = .call { callee := .builtin .append,args:=#[s,x],argTypes:=#[29,29] })
  (ps:List Pc) (S:Sepa W w ps) (i:Nat) (A:Option Addr) (n c:Nat) (xs:List Int) (B:Option Addr) (m d:Nat) (ys:List Int) (hi:ps[i]?=some (.cel (celI xs) (.slice A n c))) (hs:a.eval s = .slice A n c) (hx:a.eval x = .slice B m d) (hr:Ints w B m ys)
  (hn:n+m≤1099511627776)
  (h:∀A' c' w',Sepa W w' (ps.set i (.cel (celI (xs++ys)) (.slice A' (n+m) c')))→w.heap.size≤w'.heap.size→wpList Tryz.prog ops Q rest (a.put o.dst (.slice A' (n+m) c')) w'):wpList Tryz.prog ops Q (o :: rest) a w :=
 wpList_plain hgd fun _ hK=>wp_sepList s x ho ps S i A n c xs B m d ys hi hs hx hr hn fun A' c' w' S' hz=>hK _ _ (h A' c' w' S' hz)
theorem step_sepList (hgd:o.guard=none) (s x:Operand)
  (ho:o.op = .call { callee := .builtin .append,args:=#[s,x],argTypes:=#[29,29] })
  (ps:List Pc) (S:Sepa W w ps) (i:Nat) (A:Option Addr) (n c:Nat) (xs:List Int) (B:Option Addr) (m d:Nat) (ys:List Int) (hi:ps[i]?=some (.cel (celI xs) (.slice A n c))) (hs:a.eval s = .slice A n c) (hx:a.eval x = .slice B m d) (hr:Ints w B m ys)
  (hn:n+m≤1099511627776)
  (h:∀A' c' w',Sepa W w' (ps.set i (.cel (celI (xs++ys)) (.slice A' (n+m) c')))→w.heap.size≤w'.heap.size→K (a.put o.dst (.slice A' (n+m) c')) w'):if Region.wanted o (yielded ops a.tmps)=true then Oper.wp Tryz.prog o a w K Q else E:=by
 have hw:Region.wanted o (yielded ops a.tmps)=true:=by simp [Region.wanted,hgd]
 rw [if_pos hw]
 exact wp_sepList s x ho ps S i A n c xs B m d ys hi hs hx hr hn h
end
end Go.Proofs.YtlinbdkbbhpdpaaGreat

namespace Go.Proofs.YtlinbdkbbhpdpaaGreat
set_option maxRecDepth 100000
open Go.RowKit

set_option maxHeartbeats 2000000 in
theorem sFlatStart_yes (m:MdT) (SA AA JA MA:Option Addr) (sn sc an ac jn jc mn mc:Nat) (w:World) (h:MdRd w m SA AA JA MA sn sc an ac jn jc mn mc) (hf:FlatFit m) :
  Calls Tryz.prog 103 #[.agg #[.slice SA sn sc,.slice AA an ac,.slice JA jn jc,.slice MA mn mc]] w fun e w'=>∃g0 g1,e = .returned (.agg #[.slice (some ⟨g0,0,none⟩) sn sn,.slice (some ⟨g1,0,none⟩) (4 * mn) (4 * mn)])∧Sepa w w' [.cel (celI (staV m)) (.slice (some ⟨g0,0,none⟩) sn sn),.cel (celI (staW m)) (.slice (some ⟨g1,0,none⟩) (4 * mn) (4 * mn))]:=by
 have HL1:=Lib.hid h.lens.1
 have HL2:=Lib.hid h.lens.2.1
 have HL4:=Lib.hid h.lens.2.2.2
 have HM:=Lib.hid h
 have HF:=Lib.hid hf
 have hs30:sn≤30:=by have h1:=hf.cnt.sg;rw [HL1.out] at h1;exact h1
 have ha30:an≤30:=by have h1:=hf.cnt.asg;rw [HL2.out] at h1;exact h1
 have hm2:mn≤2:=by have h1:=hf.cnt.mm;rw [HL4.out] at h1;exact h1
 have HT0:=Lib.hid (tb_true hf)
 clear h hf
 have h0:=((Sepa.refl w).pushBlk #[.slice SA sn sc,.slice AA an ac,.slice JA jn jc,.slice MA mn mc] 108).pushBlk #[.slice none 0 0,.slice none 0 0] 158
 simp only [World.size_alloc] at h0
 go_enter Tryz.func103,Tryz.ntmps103
 go_upto_region 1 with fail
 obtain ⟨gX,hgX⟩:∃g,w.heap.size=g:=⟨_,rfl⟩
 obtain ⟨gR,hgR⟩:∃g,w.heap.size+1=g:=⟨_,rfl⟩
 rw [hgR] at h0
 (try rw [hgR])
 rw [hgX] at h0
 (try rw [hgX])
 clear hgX hgR
 have HS0:=Lib.hid h0
 clear h0
 generalize (w.alloc (.cells #[.slice SA sn sc,.slice AA an ac,.slice JA jn jc,.slice MA mn mc] 108)).alloc (.cells #[.slice none 0 0,.slice none 0 0] 158)=W9 at *
 have x0:=cell_heap (k:=0) (HS0.out.blk 0 rfl).1 rfl
 have x1:=cell_heap (k:=1) (HS0.out.blk 0 rfl).1 rfl
 have x2:=cell_heap (k:=2) (HS0.out.blk 0 rfl).1 rfl
 have x3:=cell_heap (k:=3) (HS0.out.blk 0 rfl).1 rfl
 have lx:=heap_lt0 (HS0.out.blk 0 rfl).1
 go_wp2_with fail
 refine (sflatOk_any m SA AA JA MA sn sc an ac jn jc mn mc _ (HM.out.below HS0.out.bel)).mono ?_
 rw [HT0.out]
 rintro _ w1 ⟨rfl,b1⟩
 replace HS0:=Lib.hid (HS0.out.below b1)
 clear b1 x0 x1 x2 x3 lx
 have x0:=cell_heap (k:=0) (HS0.out.blk 0 rfl).1 rfl
 have x3:=cell_heap (k:=3) (HS0.out.blk 0 rfl).1 rfl
 have lx:=heap_lt0 (HS0.out.blk 0 rfl).1
 have hmk:=fun W=>run_make_ints sn (by omega) W
 have hmk4:=fun W=>run_make_ints4 mn (by omega) W
 go_upto_region 3 with fail
 generalize w1=W9 at *
 have HN0:=Lib.hid (Sepa.refl W9)
 go_cut [3] (fun p w'=>StartW W9 sn (4 * mn) p w')
 case first =>
  go_region
  all_goals
   go_wp2_with fail
   go_meet
   (try simp only [drew_allocQ])
   first|exact (stw_a HN0.out (by omega) (by omega)).drew|exact (stw_b HN0.out (by omega) (by omega)).drew|exact (stw_c HN0.out (by omega) (by omega)).drew|exact (stw_d HN0.out (by omega) (by omega)).drew|exact (stw_e HN0.out (by omega) (by omega)).drew|exact (stw_f HN0.out (by omega) (by omega)).drew
 obtain ⟨gS,g0,g1,rfl,hS1⟩:=hcut
 have HS1:=Lib.hid (HS0.out.join hS1)
 have HZ0:Hid (staTo m 0=List.replicate sn 0):=by show _=_;rw [←HL1.out];rfl
 have HZ1:Hid (staW m=List.replicate (4 * mn) 0):=by show _=_;rw [←HL4.out];rfl
 clear hS1 HN0 HS0 x0 x3 lx hmk hmk4
 go_wp2_with fail
 go_loopw [4] (fun i wr=>∃k:Nat,k≤sn∧i = .int .i64 (k:Int)∧Sepa w wr [.blk gX #[.slice SA sn sc,.slice AA an ac,.slice JA jn jc,.slice MA mn mc] 108,wsB gR (.slice none 0 0) (.slice none 0 0),wsB gS (.slice (some ⟨g0,0,none⟩) sn sn) (.slice (some ⟨g1,0,none⟩) (4 * mn) (4 * mn)),.cel (celI (staTo m k)) (.slice (some ⟨g0,0,none⟩) sn sn),.cel (celI (staW m)) (.slice (some ⟨g1,0,none⟩) (4 * mn) (4 * mn))]) (fun i _=>sn - (intOf i).toNat)
 case atStart=>exact ⟨0,by omega,rfl,by rw [HZ0.out,HZ1.out];exact HS1.out⟩
 case round =>
  obtain ⟨k,hkk,rfl,hs⟩:=hrel
  have HS:=Lib.hid hs
  clear hs
  have x0:=cell_heap (k:=0) (HS.out.blk 0 rfl).1 rfl
  have lx:=heap_lt0 (HS.out.blk 0 rfl).1
  by_cases hlt:k<sn
  ·have hdk:decide ((k:Int)<(sn:Int))=true:=by simp;omega
   have i0:(0:Int)≤(k:Int):=by omega
   have i1:(k:Int)<(sn:Int):=by omega
   have hkl:k<m.sigs.length:=by rw [HL1.out];exact hlt
   obtain ⟨bs,os,hSA,hbs,c0,c1,c2⟩:=HM.out.sg.sgE (k:=k) hkl
   subst hSA
   rw [←HS.out.bel.cell (p:=⟨bs,os+k * 3,none⟩) hbs] at c0
   rw [←HS.out.bel.cell (p:=⟨bs,os+k * 3+1,none⟩) hbs] at c1
   rw [←HS.out.bel.cell (p:=⟨bs,os+k * 3+2,none⟩) hbs] at c2
   have lbs:=below_lt HS.out.bel hbs
   have HTK:Hid (staTo m (k+1)=(staTo m k).set k ((m.sigs[k]?.getD SgT.zero).init % mod2 (m.sigs[k]?.getD SgT.zero).width)):=rfl
   have hwd:=HF.out.wd hkl
   unfold sgK at hwd
   generalize m.sigs[k]?.getD SgT.zero=q at *
   obtain ⟨kd,wd,it⟩:=q
   simp only at c0 c1 c2 HTK hwd
   generalize staTo m k=vk at *
   obtain ⟨Y,hY⟩:∃Y:Nat,wd=(Y:Int):=⟨wd.toNat,by omega⟩
   subst hY
   have HMK:=Lib.hid (mask_eq (Y:=Y) (by omega) (by omega))
   have HAW:=Lib.hid (andW (wd:=(Y:Int)) (by omega) (by omega))
   clear hkl hbs c0
   have s0:=cell_heap (k:=0) (HS.out.blk 2 rfl).1 rfl
   have HT:Hid (Sepa w wr.drew ([.blk gX #[.slice (some ⟨bs,os,none⟩) sn sc,.slice AA an ac,.slice JA jn jc,.slice MA mn mc] 108,wsB gR (.slice none 0 0) (.slice none 0 0),wsB gS (.slice (some ⟨g0,0,none⟩) sn sn) (.slice (some ⟨g1,0,none⟩) (4 * mn) (4 * mn)),.cel (celI (vk)) (.slice (some ⟨g0,0,none⟩) sn sn),.cel (celI (staW m)) (.slice (some ⟨g1,0,none⟩) (4 * mn) (4 * mn))])):=Lib.hid HS.out.drew
   obtain ⟨_,hg7,_,q8,c8,f8,hu⟩:=HT.out.setI 3 (i:=k) rfl hlt
   injection hg7 with hg7
   injection hg7 with hg7
   subst hg7
   go_upto_region 7 with fail
   refine wp_region_noPanic ?_
   refine wp_region_T 19 (fun w'=>w'.cell? ⟨gS,0,none⟩=some (.slice (some ⟨g0,0,none⟩) sn sn)∧w'.cell? ⟨gX,0,none⟩=some (.slice (some ⟨bs,os,none⟩) sn sc)∧w'.cell? ⟨bs,os+k * 3+2,none⟩=some (.int .i64 it)∧w'.cell? ⟨bs,os+k * 3+1,none⟩=some (.int .i64 (Y:Int))) (⟨s0,x0,c2,c1⟩) (fun hT hD=>?_)
   refine onT hT 0 opA hD ?_
   refine onT hT 1 (opB opA) hD ?_
   refine onT hT 2 (opB (opB opA)) hD ?_
   refine onT hT 3 (opB (opB (opB opA))) hD ?_
   refine onT hT 4 (opC opA) hD ?_
   refine onT hT 5 (opC (opB opA)) hD ?_
   refine onT hT 6 (opC (opB (opB opA))) hD ?_
   refine onT hT 7 (opC (opB (opB (opB opA)))) hD ?_
   refine onT hT 8 (opC (opC opA)) hD ?_
   refine onT hT 9 (opC (opC (opB opA))) hD ?_
   refine onT hT 10 (opC (opC (opB (opB opA)))) hD ?_
   refine onT hT 11 (opC (opC (opB (opB (opB opA))))) hD ?_
   refine onT hT 12 (opC (opC (opC opA))) hD ?_
   refine onT hT 13 (opC (opC (opC (opB opA)))) hD ?_
   refine onT hT 14 (opC (opC (opC (opB (opB opA))))) hD ?_
   refine onT hT 15 (opC (opC (opC (opB (opB (opB opA)))))) hD ?_
   refine onT hT 16 (opD opA) hD ?_
   refine onT hT 17 (opD (opB opA)) hD ?_
   refine onT hT 18 (opD (opB (opB opA))) hD ?_
   refine lastT hT 19 (opD (opB (opB (opB opA)))) ?_
   go_wp2_with fail
   refine NoPanic.normal ?_
   have HS9:=Lib.hid (hu (bits .and .i64 it (wrap64 (wrap64 (2 ^ Y) - 1))))
   go_wp2_with fail
   go_roundw
   case rel=>exact ⟨k+1,by omega,by go_num,by rw [HTK.out,←HAW.out,←HMK.out];exact HS9.out⟩
   case measure=>simp [intOf];omega
  ·have hkn:k=sn:=by omega
   have hdk:decide ((k:Int)<(sn:Int))=false:=by simp;omega
   clear hlt
   subst k
   have HE:Hid (staTo m sn=staV m):=by show _=_;rw [←HL1.out];exact staTo_done m
   have h9:=HS.out
   rw [HE.out] at h9
   clear HS
   have s0:=cell_heap (k:=0) (h9.blk 2 rfl).1 rfl
   have s1:=cell_heap (k:=1) (h9.blk 2 rfl).1 rfl
   have ls:=heap_lt0 (h9.blk 2 rfl).1
   have e0:=cell_heap (k:=0) (h9.blk 1 rfl).1 rfl
   have e1:=cell_heap (k:=1) (h9.blk 1 rfl).1 rfl
   have e2:=fun k=>frozen_heap (h9.blk 1 rfl).1 k
   have le:=heap_lt0 (h9.blk 1 rfl).1
   have HP:=Lib.hid ((h9.put 1 rfl 0 (.slice (some ⟨g0,0,none⟩) sn sn)).put 1 rfl 1 (.slice (some ⟨g1,0,none⟩) (4 * mn) (4 * mn)))
   clear h9
   go_wp2_with fail
   generalize (wr.setCell ⟨gR,0,none⟩ (.slice (some ⟨g0,0,none⟩) sn sn)).setCell ⟨gR,1,none⟩ (.slice (some ⟨g1,0,none⟩) (4 * mn) (4 * mn))=WF at *
   have hb:WF.heap[gR]?=some (.cells #[.slice (some ⟨g0,0,none⟩) sn sn,.slice (some ⟨g1,0,none⟩) (4 * mn) (4 * mn)] 158 (0,0)):=(HP.out.blk 1 rfl).1
   exact bodyPost_ret (v := .agg #[.slice (some ⟨g0,0,none⟩) sn sn,.slice (some ⟨g1,0,none⟩) (4 * mn) (4 * mn)]) (results_cell1 Tryz.results103 rfl hb Tryz.underlying158 (by kernel_rfl)) rfl ⟨g0,g1,rfl,HP.out.sub (qs:=[_,_]) (.cons _ (.cons _ (.cons _ (List.Sublist.refl _))))⟩
set_option maxHeartbeats 8000000 in
theorem sSignalValues_yes (m:MdT) (SA AA JA MA:Option Addr) (sn sc an ac jn jc mn mc:Nat) (o:List Nat) (vals words ins:List Int) (VA WA IA:Option Addr) (vc wdc inn ic:Nat) (w:World) (h:MdRd w m SA AA JA MA sn sc an ac jn jc mn mc) (hf:FlatFit m) (hst:StFt m vals words) (hoe:evalOrd m=some o) (hv:Ints w VA sn vals) (hw:Ints w WA (4 * mn) words) (hi:Ints w IA inn ins) (hin:(pwOf m 0).length=inn) :
  Calls Tryz.prog 155 #[.agg #[.slice SA sn sc,.slice AA an ac,.slice JA jn jc,.slice MA mn mc],.agg #[.slice VA sn vc,.slice WA (4 * mn) wdc],.slice IA inn ic] w fun e w'=>∃A c,e = .returned (.slice A sn c)∧Sepa w w' [.cel (celI (sigVals m o vals ins)) (.slice A sn c)]:=by
 have HL1:=Lib.hid h.lens.1
 have HL2:=Lib.hid h.lens.2.1
 have HL4:=Lib.hid h.lens.2.2.2
 have HM:=Lib.hid h
 have HF:=Lib.hid hf
 have hs30:sn≤30:=by have h1:=hf.cnt.sg;rw [HL1.out] at h1;exact h1
 have ha30:an≤30:=by have h1:=hf.cnt.asg;rw [HL2.out] at h1;exact h1
 have hm2:mn≤2:=by have h1:=hf.cnt.mm;rw [HL4.out] at h1;exact h1
 have HST:=Lib.hid hst
 have HOE:=Lib.hid hoe
 have HOL:=Lib.hid (evalOrd_lt hoe)
 obtain ⟨on,hon⟩:∃n,o.length=n:=⟨_,rfl⟩
 have HNO:=Lib.hid hon
 have hon30:=evalOrd_len hf hoe
 rw [hon] at hon30
 have HV:=Lib.hid hv
 have HW:=Lib.hid hw
 have HI:=Lib.hid hi
 have HPW:=Lib.hid hin
 have HIN:Hid ((pwTo m.sigs 0 m.sigs.length).length=inn):=by show _=_;rw [←pwOf_flat hf];exact hin
 have hin30:inn≤30:=by have h1:=pwTo_len m.sigs 0 m.sigs.length;rw [HIN.out,h.lens.1] at h1;omega
 clear h hf hv hi hin hst hoe hon hw
 have h0:=((Sepa.refl w).pushBlk #[.slice SA sn sc,.slice AA an ac,.slice JA jn jc,.slice MA mn mc] 108).pushBlk #[.slice VA sn vc,.slice WA (4 * mn) wdc] 158
 simp only [World.size_alloc] at h0
 go_enter Tryz.func155,Tryz.ntmps155
 go_upto_region 1 with fail
 obtain ⟨gX,hgX⟩:∃g,w.heap.size=g:=⟨_,rfl⟩
 obtain ⟨gT,hgT⟩:∃g,w.heap.size+1=g:=⟨_,rfl⟩
 rw [hgT] at h0
 (try rw [hgT])
 rw [hgX] at h0
 (try rw [hgX])
 clear hgX hgT
 have HS0:=Lib.hid h0
 clear h0
 generalize (w.alloc (.cells #[.slice SA sn sc,.slice AA an ac,.slice JA jn jc,.slice MA mn mc] 108)).alloc (.cells #[.slice VA sn vc,.slice WA (4 * mn) wdc] 158)=W9 at *
 have x0:=cell_heap (k:=0) (HS0.out.blk 0 rfl).1 rfl
 have x1:=cell_heap (k:=1) (HS0.out.blk 0 rfl).1 rfl
 have x2:=cell_heap (k:=2) (HS0.out.blk 0 rfl).1 rfl
 have x3:=cell_heap (k:=3) (HS0.out.blk 0 rfl).1 rfl
 have lx:=heap_lt0 (HS0.out.blk 0 rfl).1
 have t0:=cell_heap (k:=0) (HS0.out.blk 1 rfl).1 rfl
 have t1:=cell_heap (k:=1) (HS0.out.blk 1 rfl).1 rfl
 have lt:=heap_lt0 (HS0.out.blk 1 rfl).1
 go_wp2_with fail
 refine (swordStateOk_yes m SA AA JA MA sn sc an ac jn jc mn mc vals words VA WA vc wdc _ (HM.out.below HS0.out.bel) (HV.out.below HS0.out.bel) (HW.out.below HS0.out.bel) HF.out HST.out).mono ?_
 rintro _ w1 ⟨rfl,b1⟩
 replace HS0:=Lib.hid (HS0.out.below b1)
 clear b1 x0 x1 x2 x3 lx t0 t1 lt
 have x0:=cell_heap (k:=0) (HS0.out.blk 0 rfl).1 rfl
 have x1:=cell_heap (k:=1) (HS0.out.blk 0 rfl).1 rfl
 have x2:=cell_heap (k:=2) (HS0.out.blk 0 rfl).1 rfl
 have x3:=cell_heap (k:=3) (HS0.out.blk 0 rfl).1 rfl
 have lx:=heap_lt0 (HS0.out.blk 0 rfl).1
 have t0:=cell_heap (k:=0) (HS0.out.blk 1 rfl).1 rfl
 have t1:=cell_heap (k:=1) (HS0.out.blk 1 rfl).1 rfl
 have lt:=heap_lt0 (HS0.out.blk 1 rfl).1
 go_wp2_with fail
 refine (sportWidths_any m SA AA JA MA sn sc an ac jn jc mn mc 0 _ (HM.out.below HS0.out.bel)).mono ?_
 rw [HPW.out]
 rintro _ w2 ⟨PA,pc,rfl,S2⟩
 replace HS0:=Lib.hid (HS0.out.below S2.bel)
 clear S2 x0 x1 x2 x3 lx t0 t1 lt
 have dne:((inn:Int) != (inn:Int))=false:=by simp
 have t0:=cell_heap (k:=0) (HS0.out.blk 1 rfl).1 rfl
 have t1:=cell_heap (k:=1) (HS0.out.blk 1 rfl).1 rfl
 have lt:=heap_lt0 (HS0.out.blk 1 rfl).1
 go_upto_region 3 with fail
 have hA:=heap_al (.cells #[] 3) (HS0.out.blk 1 rfl).1
 clear t0 t1 lt
 have t0:=cell_heap (k:=0) hA rfl
 have lt:=heap_lt0 hA
 clear hA
 go_upto_region 4 with (at_builtin;refine wpList_sepList rfl _ _ rfl _ (HS0.out.pushNew 3 1) 2 _ 0 0 [] VA sn vc vals rfl rfl rfl (HV.out.below (HS0.out.pushNew 3 1).bel) (by omega) ?_;intro A c w6 S6 hz6;rw [Nat.zero_add,List.nil_append] at S6;(try rw [Nat.zero_add]);have HS1:=Lib.hid S6;clear S6 hz6)
 clear t0 lt HS0 HV dne
 go_wp2_with fail
 go_loopw [8,9] (fun q i wr=>∃k:Nat,k≤sn∧i = .int .i64 (k:Int)∧q = .int .i64 ((pwTo m.sigs 0 k).length:Int)∧Sepa w wr [.blk gX #[.slice SA sn sc,.slice AA an ac,.slice JA jn jc,.slice MA mn mc] 108,.blk gT #[.slice VA sn vc,.slice WA (4 * mn) wdc] 158,.cel (celI (inTo m.sigs ins vals k)) (.slice A sn c)]) (fun _ i _=>sn - (intOf i).toNat)
 case atStart=>exact ⟨0,by omega,rfl,rfl,HS1.out⟩
 case round =>
  obtain ⟨k,hk,rfl,rfl,hs⟩:=hrel
  have HS:=Lib.hid hs
  clear hs
  have x0:=cell_heap (k:=0) (HS.out.blk 0 rfl).1 rfl
  have lx:=heap_lt0 (HS.out.blk 0 rfl).1
  by_cases hlt:k<sn
  ·have hdk:decide ((k:Int)<(sn:Int))=true:=by simp;omega
   have i0:(0:Int)≤(k:Int):=by omega
   have i1:(k:Int)<(sn:Int):=by omega
   have hkl:k<m.sigs.length:=by rw [HL1.out];exact hlt
   obtain ⟨bs,os,hSA,hbs,c0,c1,c2⟩:=HM.out.sg.sgE (k:=k) hkl
   subst hSA
   rw [←HS.out.bel.cell (p:=⟨bs,os+k * 3,none⟩) hbs] at c0
   rw [←HS.out.bel.cell (p:=⟨bs,os+k * 3+1,none⟩) hbs] at c1
   rw [←HS.out.bel.cell (p:=⟨bs,os+k * 3+2,none⟩) hbs] at c2
   have lbs:=below_lt HS.out.bel hbs
   have HTK:Hid (inTo m.sigs ins vals (k+1)=if (m.sigs[k]?.getD SgT.zero).kind=0 then (inTo m.sigs ins vals k).set k ((ins[(pwTo m.sigs 0 k).length]?.getD 0) % mod2 (m.sigs[k]?.getD SgT.zero).width) else inTo m.sigs ins vals k):=rfl
   have HPK:Hid ((pwTo m.sigs 0 (k+1)).length=(pwTo m.sigs 0 k).length+if (m.sigs[k]?.getD SgT.zero).kind=0 then 1 else 0):=by show _=_;rw [pwTo_snoc,List.length_append];unfold sgK;split <;> rfl
   have HPL:=Lib.hid (fun h0=>pwTo_lt m.sigs 0 (k:=k) hkl h0)
   have hpk:=pwTo_len m.sigs 0 k
   have hwd:=HF.out.wd hkl
   unfold sgK at hwd HPL
   generalize m.sigs[k]?.getD SgT.zero=q at *
   obtain ⟨kd,wd,it⟩:=q
   simp only at c0 c1 c2 HTK HPK hwd HPL
   generalize inTo m.sigs ins vals k=vk at *
   generalize (pwTo m.sigs 0 k).length=pk at *
   clear hkl hbs
   by_cases h3:kd=0
   ·have d3:(kd==0)=true:=by simp [h3]
    have hpl:=HPL.out h3
    rw [HIN.out] at hpl
    rw [if_pos h3] at HTK HPK
    clear h3 HPL
    obtain ⟨bi,oi,hIA,hbi,hci⟩:=HI.out.2 (by omega)
    have ci:=(HS.out.bel.cell (p:=⟨bi,oi+pk,none⟩) hbi).trans (hci pk hpl)
    have lbi:=below_lt HS.out.bel hbi
    subst hIA
    generalize ins[pk]?.getD 0=x at *
    clear hci hbi
    obtain ⟨Y,hY⟩:∃Y:Nat,wd=(Y:Int):=⟨wd.toNat,by omega⟩
    subst hY
    have HMK:=Lib.hid (mask_eq (Y:=Y) (by omega) (by omega))
    have HAW:=Lib.hid (andW (wd:=(Y:Int)) (by omega) (by omega))
    have p0:(0:Int)≤(pk:Int):=by omega
    have p1:(pk:Int)<(inn:Int):=by omega
    go_upto_region 9 with fail
    have HT:Hid (Sepa w wr.drew ([.blk gX #[.slice (some ⟨bs,os,none⟩) sn sc,.slice AA an ac,.slice JA jn jc,.slice MA mn mc] 108,.blk gT #[.slice VA sn vc,.slice WA (4 * mn) wdc] 158,.cel (celI (vk)) (.slice A sn c)])):=Lib.hid HS.out.drew
    obtain ⟨g9,hg7,_,q8,c8,f8,hu⟩:=HT.out.setI 2 (i:=k) rfl (by omega)
    subst hg7
    refine wp_region_noPanic ?_
    refine wp_region_T 16 (fun w'=>w'.cell? ⟨bi,oi+pk,none⟩=some (.int .i64 x)∧w'.cell? ⟨gX,0,none⟩=some (.slice (some ⟨bs,os,none⟩) sn sc)∧w'.cell? ⟨bs,os+k * 3+1,none⟩=some (.int .i64 (Y:Int))) (⟨ci,x0,c1⟩) (fun hT hD=>?_)
    refine onT hT 0 opA hD ?_
    refine onT hT 1 (opB opA) hD ?_
    refine onT hT 2 (opB (opB opA)) hD ?_
    refine onT hT 3 (opB (opB (opB opA))) hD ?_
    refine onT hT 4 (opC opA) hD ?_
    refine onT hT 5 (opC (opB opA)) hD ?_
    refine onT hT 6 (opC (opB (opB opA))) hD ?_
    refine onT hT 7 (opC (opB (opB (opB opA)))) hD ?_
    refine onT hT 8 (opC (opC opA)) hD ?_
    refine onT hT 9 (opC (opC (opB opA))) hD ?_
    refine onT hT 10 (opC (opC (opB (opB opA)))) hD ?_
    refine onT hT 11 (opC (opC (opB (opB (opB opA))))) hD ?_
    refine onT hT 12 (opC (opC (opC opA))) hD ?_
    refine onT hT 13 (opC (opC (opC (opB opA)))) hD ?_
    refine onT hT 14 (opC (opC (opC (opB (opB opA))))) hD ?_
    refine onT hT 15 (opC (opC (opC (opB (opB (opB opA)))))) hD ?_
    refine lastT hT 16 (opD opA) ?_
    go_wp2_with fail
    refine NoPanic.normal ?_
    have HS9:=Lib.hid (hu (bits .and .i64 x (wrap64 (wrap64 (2 ^ Y) - 1))))
    go_wp2_with fail
    go_roundw
    case rel=>exact ⟨k+1,by omega,by go_num,by rw [HPK.out];go_num,by rw [HTK.out,←HAW.out,←HMK.out];exact HS9.out⟩
    case measure=>simp [intOf];omega
   ·have d3:(kd==0)=false:=by simp [h3]
    rw [if_neg h3] at HTK HPK
    clear h3 HPL
    go_wp2_with fail
    go_roundw
    case rel=>exact ⟨k+1,by omega,by go_num,by rw [HPK.out];simp,by rw [HTK.out];exact HS.out⟩
    case measure=>simp [intOf];omega
  ·have hkn:k=sn:=by omega
   have hdk:decide ((k:Int)<(sn:Int))=false:=by simp;omega
   clear hlt
   subst k
   have HS2:=HS
   clear HS x0 lx
   have x0:=cell_heap (k:=0) (HS2.out.blk 0 rfl).1 rfl
   have x1:=cell_heap (k:=1) (HS2.out.blk 0 rfl).1 rfl
   have x2:=cell_heap (k:=2) (HS2.out.blk 0 rfl).1 rfl
   have x3:=cell_heap (k:=3) (HS2.out.blk 0 rfl).1 rfl
   have lx:=heap_lt0 (HS2.out.blk 0 rfl).1
   go_wp2_with fail
   refine (sevalOrder_any m SA AA JA MA sn sc an ac jn jc mn mc _ (HM.out.below HS2.out.bel)).mono ?_
   rintro _ w2 (⟨o',OA,oc,ho',rfl,S2⟩|⟨ho',-⟩)
   rotate_left
   ·exfalso
    rw [HOE.out] at ho'
    cases ho'
   obtain rfl:o'=o:=by rw [HOE.out] at ho';injection ho' with h;exact h.symm
   clear ho'
   rw [HNO.out] at S2
   rw [HNO.out]
   have HS3:=Lib.hid (HS2.out.join S2)
   clear S2 x0 x1 x2 x3 lx HS2
   go_wp2_with fail
   go_loopw [12] (fun i wr=>∃k:Nat,k≤on∧i = .int .i64 (k:Int)∧Sepa w wr [.blk gX #[.slice SA sn sc,.slice AA an ac,.slice JA jn jc,.slice MA mn mc] 108,.blk gT #[.slice VA sn vc,.slice WA (4 * mn) wdc] 158,.cel (celI (ordTo m (inTo m.sigs ins vals sn) (o'.take k))) (.slice A sn c),.cel (celI (natI o')) (.slice OA on oc)]) (fun i _=>on - (intOf i).toNat)
   case atStart=>exact ⟨0,by omega,rfl,by rw [List.take_zero,ordTo];exact HS3.out⟩
   case round =>
    obtain ⟨k,hkk,rfl,hs⟩:=hrel
    have HS:=Lib.hid hs
    clear hs

    by_cases hlt:k<on
    ·have hdk:decide ((k:Int)<(on:Int))=true:=by simp;omega
     have i0:(0:Int)≤(k:Int):=by omega
     have i1:(k:Int)<(on:Int):=by omega
     have hkl:k<o'.length:=by rw [HNO.out];exact hlt
     have hai:=HOL.out (o'[k]?.getD 0) (by rw [List.getElem?_eq_getElem hkl];exact List.getElem_mem hkl)
     obtain ⟨bo,oo,hOA,hbo,hco⟩:=(HS.out.ints 3 rfl).2 (by omega)
     have co:=hco k hlt
     have lbo:bo<wr.heap.size:=hbo
     subst hOA
     rw [natI_get hkl] at co
     have HTK:=Lib.hid (ordTo_succ m (inTo m.sigs ins vals sn) hkl)
     generalize o'[k]?.getD 0=i at *
     clear hco hbo hkl
     obtain ⟨ba,oa,QA,qn,qc,hAA,hba,c0,c1,r0⟩:=HM.out.asg.asE (k:=i) hai
     subst hAA
     rw [show m.asgs[i]?.getD AsT.zero=asK m i from rfl] at c0 r0
     rw [←HS.out.bel.cell (p:=⟨ba,oa+i * 2,none⟩) hba] at c0
     rw [←HS.out.bel.cell (p:=⟨ba,oa+i * 2+1,none⟩) hba] at c1
     have lba:=below_lt HS.out.bel hba
     have htg:=(HF.out.asf hai).1.1
     obtain ⟨T,hT⟩:∃T:Nat,(asK m i).target=(T:Int):=⟨(asK m i).target.toNat,by have:=htg.1;omega⟩
     have hT2:=htg.2
     rw [hT,HL1.out] at hT2
     rw [hT,Int.toNat_natCast] at HTK
     rw [hT] at c0
     obtain ⟨bs,os,hSA,hbs,z0,z1,z2⟩:=HM.out.sg.sgE (k:=T) (by rw [HL1.out];omega)
     subst hSA
     have z1:=(HS.out.bel.cell (p:=⟨bs,os+T * 3+1,none⟩) hbs).trans z1
     have lbs:=below_lt HS.out.bel hbs
     generalize ordTo m (inTo m.sigs ins vals sn) (o'.take k)=vk at *
     have hwd:=HF.out.wd (s:=T) (by rw [HL1.out];omega)
     rw [show (sgK m.sigs T).width=(m.sigs[T]?.getD SgT.zero).width from rfl] at hwd
     obtain ⟨Y,hY⟩:∃Y:Nat,(m.sigs[T]?.getD SgT.zero).width=(Y:Int):=⟨((m.sigs[T]?.getD SgT.zero).width).toNat,by omega⟩
     rw [hY] at hwd z1
     have HMK:=Lib.hid (mask_eq (Y:=Y) (by omega) (by omega))
     have HSY:=Lib.hid (fun (v:World) (hb:Below w.heap.size w v) (hv:Ints v A sn vk)=>by have h1:=sl07Eval_asg HF.out hai hT QA qn qc vk A sn c v HL1.out (r0.below hb) hv hs30;rw [hY,←HMK.out] at h1;exact h1)
     generalize evA m vk (asK m i)=ev at *
     have ha:i<an:=by rw [←HL2.out];exact hai
     have j0:(0:Int)≤(i:Int):=by omega
     have j1:(i:Int)<(an:Int):=by omega
     have t0:(0:Int)≤(T:Int):=by omega
     clear hba hbs z0 z2 htg hai hT r0 hY
     have x1:=cell_heap (k:=1) (HS.out.blk 0 rfl).1 rfl
     have lx:=heap_lt0 (HS.out.blk 0 rfl).1
     go_upto_region 15 with fail
     go_cut [13] (fun p w'=>∃g,p = .pointer (some ⟨g,0,none⟩)∧Sepa wr w' [.blk g #[.int .i64 (T:Int),.slice QA qn qc] 196])
     case first =>
      have HKP:=Lib.hid (fun (v:World) (hv:Below wr.heap.size wr v)=>(⟨(hv.cell lx).trans x1,(hv.cell lbo).trans co,(hv.cell lba).trans c0,(hv.cell lba).trans c1⟩:v.cell? ⟨gX,1,none⟩=some (.slice (some ⟨ba,oa,none⟩) an ac)∧v.cell? ⟨bo,oo+k,none⟩=some (.int .i64 (i:Int))∧v.cell? ⟨ba,oa+i * 2,none⟩=some (.int .i64 (T:Int))∧v.cell? ⟨ba,oa+i * 2+1,none⟩=some (.slice QA qn qc)))
      have hD:=(Below.refl wr.heap.size wr).drew
      have hA:=(below_new (Below.refl wr.heap.size wr) (.cells #[.int .i64 0,.slice none 0 0] 196)).drew
      have hA2:=(below_new (Below.refl wr.heap.size wr) (.cells #[.int .i64 (T:Int),.slice QA qn qc] 196)).drew
      have H1:=Lib.hid ((Sepa.refl wr).pushBlk #[.int .i64 (T:Int),.slice QA qn qc] 196).drew
      have H2:=Lib.hid ((Sepa.refl wr).drew.pushBlk #[.int .i64 (T:Int),.slice QA qn qc] 196)
      have H3:=Lib.hid ((Sepa.refl wr).pushBlk #[.int .i64 (T:Int),.slice QA qn qc] 196)
      go_region_held3 (fun w'=>w'.cell? ⟨gX,1,none⟩=some (.slice (some ⟨ba,oa,none⟩) an ac)∧w'.cell? ⟨bo,oo+k,none⟩=some (.int .i64 (i:Int))∧w'.cell? ⟨ba,oa+i * 2,none⟩=some (.int .i64 (T:Int))∧w'.cell? ⟨ba,oa+i * 2+1,none⟩=some (.slice QA qn qc))
       (first|with_reducible exact HKP.out _ hD|with_reducible exact HKP.out _ hA|with_reducible exact HKP.out _ hA2)
       ((fail))
      all_goals
       go_wp2_with fail
       go_meet
       first|exact ⟨_,rfl,H1.out⟩|exact ⟨_,rfl,H2.out⟩|exact ⟨_,rfl,H3.out⟩
     obtain ⟨gY,rfl,hY⟩:=hcut
     have HS5:=Lib.hid (HS.out.join hY)
     have z1:=(hY.bel.cell lbs).trans z1
     have lbs:=below_lt hY.bel lbs
     have HSZ:=Lib.hid (fun (x:Sub wc)=>HSY.out x.v (below_tr HS5.out.bel x.h) ((HS5.out.below x.h).ints 2 rfl))
     clear hY c0 c1 co lbo lba x1 lx HSY
     have y0:=cell_heap (k:=0) (HS5.out.blk 4 rfl).1 rfl
     have y1:=cell_heap (k:=1) (HS5.out.blk 4 rfl).1 rfl
     have ly:=heap_lt0 (HS5.out.blk 4 rfl).1
     have x0:=cell_heap (k:=0) (HS5.out.blk 0 rfl).1 rfl
     have lx:=heap_lt0 (HS5.out.blk 0 rfl).1
     go_upto_region 16 with fail
     have hsub:=sub_ne wc
     have hsc:=sub_cell wc
     refine wp_region_below wc (by kernel_rfl) (by kernel_rfl) (Below.refl _ _) ?_
     repeat (go_big_quiet_step ((first
      | (go_at_call 156;with_reducible exact calls_sub (HSZ.out _)))))
     refine wpQuiet_nil ?_
     rintro wq ⟨⟨w5,hD⟩,hw⟩
     replace hw:wq=w5:=hw
     subst hw
     clear hsub hsc
     have HT:Hid (Sepa w wq ([.blk gX #[.slice (some ⟨bs,os,none⟩) sn sc,.slice (some ⟨ba,oa,none⟩) an ac,.slice JA jn jc,.slice MA mn mc] 108,.blk gT #[.slice VA sn vc,.slice WA (4 * mn) wdc] 158,.cel (celI (vk)) (.slice A sn c),.cel (celI (natI o')) (.slice (some ⟨bo,oo,none⟩) on oc),.blk gY #[.int .i64 (T:Int),.slice QA qn qc] 196])):=Lib.hid (HS5.out.below hD)
     obtain ⟨g9,hg7,_,q8,c8,f8,hu⟩:=HT.out.setI 2 (i:=T) rfl (by omega)
     subst hg7
     clear y0 y1 ly x0 lx
     have y0:=cell_heap (k:=0) (HT.out.blk 4 rfl).1 rfl
     have ly:=heap_lt0 (HT.out.blk 4 rfl).1
     have HS9:=Lib.hid ((hu ev).sub (qs:=[_,_,_,_]) (List.sublist_append_left [_,_,_,_] [_]))
     go_wp2_with fail
     go_roundw
     case rel=>exact ⟨k+1,by omega,by go_num,by rw [HTK.out];exact HS9.out⟩
     case measure=>simp [intOf];omega
    ·have hkn:k=on:=by omega
     have hdk:decide ((k:Int)<(on:Int))=false:=by simp;omega
     clear hlt
     subst k
     have HE:Hid (ordTo m (inTo m.sigs ins vals sn) (o'.take on)=sigVals m o' vals ins):=by show _=_;unfold sigVals;rw [HL1.out,←HNO.out,List.take_of_length_le (Nat.le_refl _)]
     have h9:=HS.out
     rw [HE.out] at h9
     have HG:=Lib.hid (h9.sub (qs:=[_]) (.cons _ (.cons _ (.cons_cons _ (.cons _ (List.Sublist.refl _))))))
     clear HS h9
     go_wp2_with fail
     go_ret
     exact ⟨_,_,rfl,HG.out⟩
end Go.Proofs.YtlinbdkbbhpdpaaGreat

namespace Go.Proofs.YtlinbdkbbhpdpaaGreat
set_option maxRecDepth 100000
open Go.RowKit

theorem Sepa.fillN {W w:World} {ps:List Pc} (h:Sepa W w ps) (j:Nat) (hj:ps[j]?=some (.cels [] [])):Sepa W (w.alloc (.cells #[] 3)) (ps.set j (.cel (celI []) (.slice (some ⟨w.heap.size,0,none⟩) 0 0))):=by
 have h1:=((Sepa.nil (Below.refl w.heap.size w)).pushNew 3 1).tree 0 rfl
 exact h.fillQ j hj (below_new (Below.refl _ _) _) h1
set_option maxHeartbeats 16000000 in
theorem sFlatStep_yes (m:MdT) (SA AA JA MA:Option Addr) (sn sc an ac jn jc mn mc:Nat) (o:List Nat) (vals words ins:List Int) (VA WA IA:Option Addr) (vc wdc inn ic:Nat) (w:World) (h:MdRd w m SA AA JA MA sn sc an ac jn jc mn mc) (hf:FlatFit m) (hst:StFt m vals words) (hoe:evalOrd m=some o) (hv:Ints w VA sn vals) (hw:Ints w WA (4 * mn) words) (hi:Ints w IA inn ins) (hin:(pwOf m 0).length=inn) :
  Calls Tryz.prog 104 #[.agg #[.slice SA sn sc,.slice AA an ac,.slice JA jn jc,.slice MA mn mc],.agg #[.slice VA sn vc,.slice WA (4 * mn) wdc],.slice IA inn ic] w fun e w'=>∃g0 WB wd2 RA rc,e = .returned (.tuple #[.agg #[.slice (some ⟨g0,0,none⟩) sn sn,.slice WB (4 * mn) wd2],.slice RA (outVals m (sigVals m o vals ins)).length rc])∧Sepa w w' [.cel (celI (nxtV m words (sigVals m o vals ins))) (.slice (some ⟨g0,0,none⟩) sn sn),.cel (celI (nxtW m words (sigVals m o vals ins))) (.slice WB (4 * mn) wd2),.cel (celI (outVals m (sigVals m o vals ins))) (.slice RA (outVals m (sigVals m o vals ins)).length rc)]:=by
 have HL1:=Lib.hid h.lens.1
 have HL2:=Lib.hid h.lens.2.1
 have HL4:=Lib.hid h.lens.2.2.2
 have HM:=Lib.hid h
 have HF:=Lib.hid hf
 have hs30:sn≤30:=by have h1:=hf.cnt.sg;rw [HL1.out] at h1;exact h1
 have ha30:an≤30:=by have h1:=hf.cnt.asg;rw [HL2.out] at h1;exact h1
 have hm2:mn≤2:=by have h1:=hf.cnt.mm;rw [HL4.out] at h1;exact h1
 have HST:=Lib.hid hst
 have HOE:=Lib.hid hoe
 have HV:=Lib.hid hv
 have HW:=Lib.hid hw
 have HI:=Lib.hid hi
 have HPW:=Lib.hid hin
 have HVF0:=Lib.hid (sigVals_fit hf (evalOrd_lt hoe) (ins:=ins) hst.val)
 clear h hf hv hi hin hst hoe hw
 have h0:=(((Sepa.refl w).pushBlk #[.slice SA sn sc,.slice AA an ac,.slice JA jn jc,.slice MA mn mc] 108).pushBlk #[.slice VA sn vc,.slice WA (4 * mn) wdc] 158).pushBlk #[.slice none 0 0,.slice none 0 0] 158
 simp only [World.size_alloc] at h0
 go_enter Tryz.func104,Tryz.ntmps104
 go_upto_region 1 with fail
 obtain ⟨gX,hgX⟩:∃g,w.heap.size=g:=⟨_,rfl⟩
 obtain ⟨gT,hgT⟩:∃g,w.heap.size+1=g:=⟨_,rfl⟩
 obtain ⟨gR,hgR⟩:∃g,w.heap.size+1+1=g:=⟨_,rfl⟩
 rw [hgR] at h0
 (try rw [hgR])
 rw [hgT] at h0
 (try rw [hgT])
 rw [hgX] at h0
 (try rw [hgX])
 clear hgX hgR hgT
 have HS0:=Lib.hid h0
 clear h0
 generalize ((w.alloc (.cells #[.slice SA sn sc,.slice AA an ac,.slice JA jn jc,.slice MA mn mc] 108)).alloc (.cells #[.slice VA sn vc,.slice WA (4 * mn) wdc] 158)).alloc (.cells #[.slice none 0 0,.slice none 0 0] 158)=W9 at *
 have HS1:=Lib.hid (HS0.out.pushNew 3 1)
 go_upto_region 2 with fail
 obtain ⟨gO,hgO⟩:∃g,W9.heap.size=g:=⟨_,rfl⟩
 rw [hgO] at HS1
 (try rw [hgO])
 generalize W9.alloc (.cells #[] 3)=w1 at *
 clear hgO HS0
 have HS0:=HS1
 clear HS1
 have x0:=cell_heap (k:=0) (HS0.out.blk 0 rfl).1 rfl
 have x1:=cell_heap (k:=1) (HS0.out.blk 0 rfl).1 rfl
 have x2:=cell_heap (k:=2) (HS0.out.blk 0 rfl).1 rfl
 have x3:=cell_heap (k:=3) (HS0.out.blk 0 rfl).1 rfl
 have lx:=heap_lt0 (HS0.out.blk 0 rfl).1
 have t0:=cell_heap (k:=0) (HS0.out.blk 1 rfl).1 rfl
 have t1:=cell_heap (k:=1) (HS0.out.blk 1 rfl).1 rfl
 have lt:=heap_lt0 (HS0.out.blk 1 rfl).1
 go_wp2_with fail
 refine (swordStateOk_yes m SA AA JA MA sn sc an ac jn jc mn mc vals words VA WA vc wdc _ (HM.out.below HS0.out.bel) (HV.out.below HS0.out.bel) (HW.out.below HS0.out.bel) HF.out HST.out).mono ?_
 rintro _ w2 ⟨rfl,b1⟩
 replace HS0:=Lib.hid (HS0.out.below b1)
 clear b1 x0 x1 x2 x3 lx t0 t1 lt
 have x0:=cell_heap (k:=0) (HS0.out.blk 0 rfl).1 rfl
 have x1:=cell_heap (k:=1) (HS0.out.blk 0 rfl).1 rfl
 have x2:=cell_heap (k:=2) (HS0.out.blk 0 rfl).1 rfl
 have x3:=cell_heap (k:=3) (HS0.out.blk 0 rfl).1 rfl
 have lx:=heap_lt0 (HS0.out.blk 0 rfl).1
 have t0:=cell_heap (k:=0) (HS0.out.blk 1 rfl).1 rfl
 have t1:=cell_heap (k:=1) (HS0.out.blk 1 rfl).1 rfl
 have lt:=heap_lt0 (HS0.out.blk 1 rfl).1
 go_wp2_with fail
 refine (sportWidths_any m SA AA JA MA sn sc an ac jn jc mn mc 0 _ (HM.out.below HS0.out.bel)).mono ?_
 rw [HPW.out]
 rintro _ w3 ⟨PA,pc,rfl,S2⟩
 replace HS0:=Lib.hid (HS0.out.below S2.bel)
 clear S2 x0 x1 x2 x3 lx t0 t1 lt
 have dne:((inn:Int) != (inn:Int))=false:=by simp
 have x0:=cell_heap (k:=0) (HS0.out.blk 0 rfl).1 rfl
 have x1:=cell_heap (k:=1) (HS0.out.blk 0 rfl).1 rfl
 have x2:=cell_heap (k:=2) (HS0.out.blk 0 rfl).1 rfl
 have x3:=cell_heap (k:=3) (HS0.out.blk 0 rfl).1 rfl
 have lx:=heap_lt0 (HS0.out.blk 0 rfl).1
 have t0:=cell_heap (k:=0) (HS0.out.blk 1 rfl).1 rfl
 have t1:=cell_heap (k:=1) (HS0.out.blk 1 rfl).1 rfl
 have lt:=heap_lt0 (HS0.out.blk 1 rfl).1
 go_wp2_with fail
 refine (sSignalValues_yes m SA AA JA MA sn sc an ac jn jc mn mc o vals words ins VA WA IA vc wdc inn ic _ (HM.out.below HS0.out.bel) HF.out HST.out HOE.out (HV.out.below HS0.out.bel) (HW.out.below HS0.out.bel) (HI.out.below HS0.out.bel) HPW.out).mono ?_
 rintro _ w4 ⟨TA,tc,rfl,S4⟩
 have HVE0:∃v,v=sigVals m o vals ins:=⟨_,rfl⟩
 obtain ⟨v,hve⟩:=HVE0
 rw [←hve] at S4
 have HVE:=Lib.hid hve.symm
 have HVF:Hid (ValFit m v):=by rw [hve];exact HVF0.out
 have HN0:=Lib.hid ((HS0.out.join S4).holeQ.holeQ)
 clear S4 x0 x1 x2 x3 lx t0 t1 lt dne hve HVF0 HV HI HPW HOE HS0
 go_upto_region 5 with fail
 have x0:=cell_heap (k:=0) (HN0.out.blk 2 rfl).1 rfl
 have lx:=heap_lt0 (HN0.out.blk 2 rfl).1
 have t1:=cell_heap (k:=1) (HN0.out.blk 3 rfl).1 rfl
 have lt:=heap_lt0 (HN0.out.blk 3 rfl).1
 have hmk:=fun W=>run_make_ints sn (by omega) W
 have HKP:Hid (∀(v:World) (ps:List Pc),Sepa w v ps→ps[2]?=some (.blk gX #[.slice SA sn sc,.slice AA an ac,.slice JA jn jc,.slice MA mn mc] 108)→ps[3]?=some (.blk gT #[.slice VA sn vc,.slice WA (4 * mn) wdc] 158)→(v.cell? ⟨gX,0,none⟩=some (.slice SA sn sc)∧v.cell? ⟨gT,1,none⟩=some (.slice WA (4 * mn) wdc))):=fun v ps h h2 h3=>⟨cell_heap (k:=0) (h.blk 2 h2).1 rfl,cell_heap (k:=1) (h.blk 3 h3).1 rfl⟩
 have HSX:=Lib.hid HN0.out.drew
 go_cut [10] (fun p w'=>∃gS g0 WB wd2,p = .pointer (some ⟨gS,0,none⟩)∧Sepa w w' [.cel (celI (List.replicate sn 0)) (.slice (some ⟨g0,0,none⟩) sn sn),.cel (celI (words)) (.slice WB (4 * mn) wd2),.blk gX #[.slice SA sn sc,.slice AA an ac,.slice JA jn jc,.slice MA mn mc] 108,.blk gT #[.slice VA sn vc,.slice WA (4 * mn) wdc] 158,wsB gR (.slice none 0 0) (.slice none 0 0),.cel (celI []) (.slice (some ⟨gO,0,none⟩) 0 0),.cel (celI v) (.slice TA sn tc),wsB gS (.slice (some ⟨g0,0,none⟩) sn sn) (.slice WB (4 * mn) wd2)])
 case first =>
  go_region_held3 (fun w'=>w'.cell? ⟨gX,0,none⟩=some (.slice SA sn sc)∧w'.cell? ⟨gT,1,none⟩=some (.slice WA (4 * mn) wdc))
   (first|with_reducible exact HKP.out _ _ (HSX.out) rfl rfl|with_reducible exact HKP.out _ _ (((HN0.out.fillZ 0 rfl sn (by omega))).drew) rfl rfl|with_reducible exact HKP.out _ _ (((HN0.out.fillN 1 rfl)).drew) rfl rfl|with_reducible exact HKP.out _ _ (((HN0.out.pushBlk #[.slice none 0 0,.slice none 0 0] 158)).drew) rfl rfl|with_reducible exact HKP.out _ _ ((((HN0.out.fillZ 0 rfl sn (by omega)).fillN 1 rfl)).drew) rfl rfl|with_reducible exact HKP.out _ _ ((((HN0.out.fillZ 0 rfl sn (by omega)).pushBlk #[.slice none 0 0,.slice none 0 0] 158)).drew) rfl rfl|with_reducible exact HKP.out _ _ ((((HN0.out.fillN 1 rfl).fillZ 0 rfl sn (by omega))).drew) rfl rfl|with_reducible exact HKP.out _ _ ((((HN0.out.fillN 1 rfl).pushBlk #[.slice none 0 0,.slice none 0 0] 158)).drew) rfl rfl|with_reducible exact HKP.out _ _ ((((HN0.out.pushBlk #[.slice none 0 0,.slice none 0 0] 158).fillZ 0 rfl sn (by omega))).drew) rfl rfl|with_reducible exact HKP.out _ _ ((((HN0.out.pushBlk #[.slice none 0 0,.slice none 0 0] 158).fillN 1 rfl)).drew) rfl rfl|with_reducible exact HKP.out _ _ (((((HN0.out.fillZ 0 rfl sn (by omega)).fillN 1 rfl).pushBlk #[.slice none 0 0,.slice none 0 0] 158)).drew) rfl rfl|with_reducible exact HKP.out _ _ (((((HN0.out.fillZ 0 rfl sn (by omega)).pushBlk #[.slice none 0 0,.slice none 0 0] 158).fillN 1 rfl)).drew) rfl rfl|with_reducible exact HKP.out _ _ (((((HN0.out.fillN 1 rfl).fillZ 0 rfl sn (by omega)).pushBlk #[.slice none 0 0,.slice none 0 0] 158)).drew) rfl rfl|with_reducible exact HKP.out _ _ (((((HN0.out.fillN 1 rfl).pushBlk #[.slice none 0 0,.slice none 0 0] 158).fillZ 0 rfl sn (by omega))).drew) rfl rfl|with_reducible exact HKP.out _ _ (((((HN0.out.pushBlk #[.slice none 0 0,.slice none 0 0] 158).fillZ 0 rfl sn (by omega)).fillN 1 rfl)).drew) rfl rfl|with_reducible exact HKP.out _ _ (((((HN0.out.pushBlk #[.slice none 0 0,.slice none 0 0] 158).fillN 1 rfl).fillZ 0 rfl sn (by omega))).drew) rfl rfl|with_reducible exact HKP.out _ _ (HSX.out.fillZ 0 rfl sn (by omega)) rfl rfl|with_reducible exact HKP.out _ _ (HSX.out.pushBlk _ _) rfl rfl|with_reducible exact HKP.out _ _ ((HSX.out.fillZ 0 rfl sn (by omega)).pushBlk _ _) rfl rfl|with_reducible exact HKP.out _ _ ((HSX.out.pushBlk _ _).fillZ 0 rfl sn (by omega)) rfl rfl|with_reducible exact HKP.out _ _ (((HSX.out.put 7 rfl 0 _).put 7 rfl 1 _)) rfl rfl|with_reducible exact HKP.out _ _ ((((HSX.out.fillZ 0 rfl sn (by omega)).put 7 rfl 0 _).put 7 rfl 1 _)) rfl rfl|with_reducible exact HKP.out _ _ ((((HSX.out.put 7 rfl 0 _).put 7 rfl 1 _)).fillZ 0 rfl sn (by omega)) rfl rfl)
   ((first|((first|with_reducible refine synQS ((HN0.out.fillN 1 rfl)).drew ?_|with_reducible refine synQS (((HN0.out.fillZ 0 rfl sn (by omega)).fillN 1 rfl)).drew ?_|with_reducible refine synQS (((HN0.out.fillN 1 rfl).fillZ 0 rfl sn (by omega))).drew ?_|with_reducible refine synQS (((HN0.out.fillN 1 rfl).pushBlk #[.slice none 0 0,.slice none 0 0] 158)).drew ?_|with_reducible refine synQS (((HN0.out.pushBlk #[.slice none 0 0,.slice none 0 0] 158).fillN 1 rfl)).drew ?_|with_reducible refine synQS ((((HN0.out.fillZ 0 rfl sn (by omega)).fillN 1 rfl).pushBlk #[.slice none 0 0,.slice none 0 0] 158)).drew ?_|with_reducible refine synQS ((((HN0.out.fillZ 0 rfl sn (by omega)).pushBlk #[.slice none 0 0,.slice none 0 0] 158).fillN 1 rfl)).drew ?_|with_reducible refine synQS ((((HN0.out.fillN 1 rfl).fillZ 0 rfl sn (by omega)).pushBlk #[.slice none 0 0,.slice none 0 0] 158)).drew ?_|with_reducible refine synQS ((((HN0.out.fillN 1 rfl).pushBlk #[.slice none 0 0,.slice none 0 0] 158).fillZ 0 rfl sn (by omega))).drew ?_|with_reducible refine synQS ((((HN0.out.pushBlk #[.slice none 0 0,.slice none 0 0] 158).fillZ 0 rfl sn (by omega)).fillN 1 rfl)).drew ?_|with_reducible refine synQS ((((HN0.out.pushBlk #[.slice none 0 0,.slice none 0 0] 158).fillN 1 rfl).fillZ 0 rfl sn (by omega))).drew ?_);intro hS;(try simp only [World.size_alloc] at hS);replace HSX:=Lib.hid hS;clear hS;refine step_sepList rfl _ _ (by rfl) _ HSX.out 1 _ 0 0 [] WA (4 * mn) wdc words rfl (by rfl) (by rfl) (HW.out.below HSX.out.bel) (by omega) ?_;intro WB wd2 w6 S6 hz6;rw [Nat.zero_add,List.nil_append] at S6;(try rw [Nat.zero_add]);replace HSX:=Lib.hid S6;(try obtain ⟨r0,r1,rf,lr⟩:=box2Q (HSX.out.blk 7 rfl).1);clear S6 hz6)))
  all_goals
   go_wp2_with fail
   go_meet
   first
    | exact ⟨_,_,_,_,rfl,(HSX.out.put 7 rfl 0 _).put 7 rfl 1 _⟩
    | exact ⟨_,_,_,_,rfl,HSX.out.pushBlk _ _⟩
    | exact ⟨_,_,_,_,rfl,((HSX.out.fillZ 0 rfl sn (by omega)).put 7 rfl 0 _).put 7 rfl 1 _⟩
    | exact ⟨_,_,_,_,rfl,((HSX.out.put 7 rfl 0 _).put 7 rfl 1 _).fillZs 0 rfl sn (by omega) (by simp)⟩
    | exact ⟨_,_,_,_,rfl,HSX.out.zb 0 rfl sn (by omega) _ _⟩
    | exact ⟨_,_,_,_,rfl,HSX.out.bz 0 sn (by omega) _ _ rfl⟩
 obtain ⟨gS,g0,WB,wd2,rfl,hS1⟩:=hcut
 have HS1:=Lib.hid hS1
 have HZ0:Hid (regTo m v 0=List.replicate sn 0):=by show _=_;rw [←HL1.out];rfl
 clear hS1 HSX HN0 HKP x0 lx t1 lt hmk
 go_wp2_with fail
 go_loopw [11] (fun i wr=>∃k:Nat,k≤an∧i = .int .i64 (k:Int)∧Sepa w wr [.cel (celI (regTo m v k)) (.slice (some ⟨g0,0,none⟩) sn sn),.cel (celI (words)) (.slice WB (4 * mn) wd2),.blk gX #[.slice SA sn sc,.slice AA an ac,.slice JA jn jc,.slice MA mn mc] 108,.blk gT #[.slice VA sn vc,.slice WA (4 * mn) wdc] 158,wsB gR (.slice none 0 0) (.slice none 0 0),.cel (celI []) (.slice (some ⟨gO,0,none⟩) 0 0),.cel (celI v) (.slice TA sn tc),wsB gS (.slice (some ⟨g0,0,none⟩) sn sn) (.slice WB (4 * mn) wd2)]) (fun i _=>an - (intOf i).toNat)
 case atStart=>exact ⟨0,by omega,rfl,by rw [HZ0.out];exact HS1.out⟩
 case round =>
  obtain ⟨k,hkk,rfl,hs⟩:=hrel
  have HS:=Lib.hid hs
  clear hs
  have x1:=cell_heap (k:=1) (HS.out.blk 2 rfl).1 rfl
  have lx:=heap_lt0 (HS.out.blk 2 rfl).1
  by_cases hlt:k<an
  ·have hdk:decide ((k:Int)<(an:Int))=true:=by simp;omega
   have i0:(0:Int)≤(k:Int):=by omega
   have i1:(k:Int)<(an:Int):=by omega
   have hai:k<m.asgs.length:=by rw [HL2.out];exact hlt
   obtain ⟨ba,oa,QA,qn,qc,hAA,hba,c0,c1,r0⟩:=HM.out.asg.asE (k:=k) hai
   subst hAA
   rw [show m.asgs[k]?.getD AsT.zero=asK m k from rfl] at c0 r0
   rw [←HS.out.bel.cell (p:=⟨ba,oa+k * 2,none⟩) hba] at c0
   rw [←HS.out.bel.cell (p:=⟨ba,oa+k * 2+1,none⟩) hba] at c1
   have lba:=below_lt HS.out.bel hba
   have htg:=(HF.out.asf hai).1.1
   obtain ⟨T,hT⟩:∃T:Nat,(asK m k).target=(T:Int):=⟨(asK m k).target.toNat,by have:=htg.1;omega⟩
   have hT2:=htg.2
   rw [hT,HL1.out] at hT2
   have HTK:Hid (regTo m v (k+1)=if (m.sigs[T]?.getD SgT.zero).kind=3 then (regTo m v k).set T (evA m v (asK m k)) else regTo m v k):=by show _=_;rw [regTo,hT,Int.toNat_natCast];unfold sgI sgK;rw [Int.toNat_natCast]
   rw [hT] at c0
   obtain ⟨bs,os,hSA,hbs,z0,z1,z2⟩:=HM.out.sg.sgE (k:=T) (by rw [HL1.out];omega)
   subst hSA
   have z0:=(HS.out.bel.cell (p:=⟨bs,os+T * 3,none⟩) hbs).trans z0
   have z1:=(HS.out.bel.cell (p:=⟨bs,os+T * 3+1,none⟩) hbs).trans z1
   have lbs:=below_lt HS.out.bel hbs
   have hwd:=HF.out.wd (s:=T) (by rw [HL1.out];omega)
   rw [show (sgK m.sigs T).width=(m.sigs[T]?.getD SgT.zero).width from rfl] at hwd
   obtain ⟨Y,hY⟩:∃Y:Nat,(m.sigs[T]?.getD SgT.zero).width=(Y:Int):=⟨((m.sigs[T]?.getD SgT.zero).width).toNat,by omega⟩
   rw [hY] at hwd z1
   have HMK:=Lib.hid (mask_eq (Y:=Y) (by omega) (by omega))
   have HEX:=Lib.hid (fun (u:World) (hb:Below w.heap.size w u) (hv:Ints u TA sn v)=>by have h1:=sl07Eval_asg HF.out hai hT QA qn qc v TA sn tc u HL1.out (r0.below hb) hv hs30;rw [hY,←HMK.out] at h1;exact h1)
   generalize evA m v (asK m k)=ev at *
   generalize (m.sigs[T]?.getD SgT.zero).kind=kd at *
   generalize regTo m v k=rk at *
   have t0:(0:Int)≤(T:Int):=by omega
   clear hba hbs z2 htg hai hT r0 hY
   have HS5:=Lib.hid (HS.out.pushBlk #[.int .i64 (T:Int),.slice QA qn qc] 196)
   rw [←(below_new (Below.refl wr.heap.size wr) (.cells #[.int .i64 (T:Int),.slice QA qn qc] 196)).cell lbs] at z0 z1
   have lbs5:=below_lt (below_new (Below.refl wr.heap.size wr) (.cells #[.int .i64 (T:Int),.slice QA qn qc] 196)) lbs
   go_upto_region 10 with fail
   obtain ⟨gY,hgY⟩:∃g,wr.heap.size=g:=⟨_,rfl⟩
   rw [hgY] at HS5
   (try rw [hgY])
   generalize wr.alloc (.cells #[.int .i64 (T:Int),.slice QA qn qc] 196)=W5 at *
   clear c0 c1 lba lbs hgY x1 lx
   have y0:=cell_heap (k:=0) (HS5.out.blk 8 rfl).1 rfl
   have y1:=cell_heap (k:=1) (HS5.out.blk 8 rfl).1 rfl
   have ly:=heap_lt0 (HS5.out.blk 8 rfl).1
   have x0:=cell_heap (k:=0) (HS5.out.blk 2 rfl).1 rfl
   have lx:=heap_lt0 (HS5.out.blk 2 rfl).1
   by_cases h3:kd=3
   ·have d3:(kd==3)=true:=by simp [h3]
    rw [if_pos h3] at HTK
    clear h3
    go_upto_region 11 with fail
    have HSZ:=Lib.hid (fun (x:Sub W5)=>HEX.out x.v (below_tr HS5.out.bel x.h) ((HS5.out.below x.h).ints 6 rfl))
    have hsub:=sub_ne W5
    have hsc:=sub_cell W5
    refine wp_region_below W5 (by kernel_rfl) (by kernel_rfl) (Below.refl _ _) ?_
    repeat (go_big_quiet_step ((first
     | (go_at_call 156;with_reducible exact calls_sub (HSZ.out _)))))
    refine wpQuiet_nil ?_
    rintro wq ⟨⟨w5,hD⟩,hw⟩
    replace hw:wq=w5:=hw
    subst hw
    clear hsub hsc
    clear y0 y1 ly x0 lx
    have HT:Hid (Sepa w wq [.cel (celI (rk)) (.slice (some ⟨g0,0,none⟩) sn sn),.cel (celI (words)) (.slice WB (4 * mn) wd2),.blk gX #[.slice (some ⟨bs,os,none⟩) sn sc,.slice (some ⟨ba,oa,none⟩) an ac,.slice JA jn jc,.slice MA mn mc] 108,.blk gT #[.slice VA sn vc,.slice WA (4 * mn) wdc] 158,wsB gR (.slice none 0 0) (.slice none 0 0),.cel (celI []) (.slice (some ⟨gO,0,none⟩) 0 0),.cel (celI v) (.slice TA sn tc),wsB gS (.slice (some ⟨g0,0,none⟩) sn sn) (.slice WB (4 * mn) wd2),.blk gY #[.int .i64 (T:Int),.slice QA qn qc] 196]):=Lib.hid (HS5.out.below hD)
    clear hD
    obtain ⟨g9,hg7,_,q8,c8,f8,hu⟩:=HT.out.setI 0 (i:=T) rfl (by omega)
    injection hg7 with hg7
    injection hg7 with hg7
    subst hg7
    have y0:=cell_heap (k:=0) (HT.out.blk 8 rfl).1 rfl
    have ly:=heap_lt0 (HT.out.blk 8 rfl).1
    have s0:=cell_heap (k:=0) (HT.out.blk 7 rfl).1 rfl
    have ls:=heap_lt0 (HT.out.blk 7 rfl).1
    have HS9:=Lib.hid ((hu ev).sub (qs:=[_,_,_,_,_,_,_,_]) (List.sublist_append_left [_,_,_,_,_,_,_,_] [_]))
    go_wp2_with fail
    go_roundw
    case rel=>exact ⟨k+1,by omega,by go_num,by rw [HTK.out];exact HS9.out⟩
    case measure=>simp [intOf];omega
   ·have d3:(kd==3)=false:=by simp [h3]
    rw [if_neg h3] at HTK
    have HS9:=Lib.hid (HS5.out.sub (qs:=[_,_,_,_,_,_,_,_]) (List.sublist_append_left [_,_,_,_,_,_,_,_] [_]))
    clear h3
    go_wp2_with fail
    go_roundw
    case rel=>exact ⟨k+1,by omega,by go_num,by rw [HTK.out];exact HS9.out⟩
    case measure=>simp [intOf];omega
  ·have hkn:k=an:=by omega
   have hdk:decide ((k:Int)<(an:Int))=false:=by simp;omega
   clear hlt
   subst k
   have HS2:Hid (Sepa w wr [.cel (celI (memV m words v 0)) (.slice (some ⟨g0,0,none⟩) sn sn),.cel (celI (memWd m words v 0)) (.slice WB (4 * mn) wd2),.blk gX #[.slice SA sn sc,.slice AA an ac,.slice JA jn jc,.slice MA mn mc] 108,.blk gT #[.slice VA sn vc,.slice WA (4 * mn) wdc] 158,wsB gR (.slice none 0 0) (.slice none 0 0),.cel (celI []) (.slice (some ⟨gO,0,none⟩) 0 0),.cel (celI v) (.slice TA sn tc),wsB gS (.slice (some ⟨g0,0,none⟩) sn sn) (.slice WB (4 * mn) wd2)]):=by have h1:=HS.out;rw [show regTo m v an=memV m words v 0 from by rw [←HL2.out];rfl] at h1;exact h1
   go_wp2_with fail
   clear HS x1 lx
   go_loopw [15] (fun i wr=>∃k:Nat,k≤mn∧i = .int .i64 (k:Int)∧Sepa w wr [.cel (celI (memV m words v k)) (.slice (some ⟨g0,0,none⟩) sn sn),.cel (celI (memWd m words v k)) (.slice WB (4 * mn) wd2),.blk gX #[.slice SA sn sc,.slice AA an ac,.slice JA jn jc,.slice MA mn mc] 108,.blk gT #[.slice VA sn vc,.slice WA (4 * mn) wdc] 158,wsB gR (.slice none 0 0) (.slice none 0 0),.cel (celI []) (.slice (some ⟨gO,0,none⟩) 0 0),.cel (celI v) (.slice TA sn tc),wsB gS (.slice (some ⟨g0,0,none⟩) sn sn) (.slice WB (4 * mn) wd2)]) (fun i _=>mn - (intOf i).toNat)
   case atStart=>exact ⟨0,by omega,rfl,HS2.out⟩
   case round =>
    obtain ⟨k,hkk,rfl,hs⟩:=hrel
    have HS:=Lib.hid hs
    clear hs
    have x3:=cell_heap (k:=3) (HS.out.blk 2 rfl).1 rfl
    have lx:=heap_lt0 (HS.out.blk 2 rfl).1
    by_cases hlt:k<mn
    ·have hdk:decide ((k:Int)<(mn:Int))=true:=by simp;omega
     have i0:(0:Int)≤(k:Int):=by omega
     have i1:(k:Int)<(mn:Int):=by omega
     have hkl:k<m.mems.length:=by rw [HL4.out];exact hlt
     obtain ⟨bm,om,hMA,hbm,c0,c1,c2,c3⟩:=HM.out.mm.mmE (k:=k) hkl
     subst hMA
     rw [←HS.out.bel.cell (p:=⟨bm,om+k * 4,none⟩) hbm] at c0
     rw [←HS.out.bel.cell (p:=⟨bm,om+k * 4+1,none⟩) hbm] at c1
     rw [←HS.out.bel.cell (p:=⟨bm,om+k * 4+2,none⟩) hbm] at c2
     rw [←HS.out.bel.cell (p:=⟨bm,om+k * 4+3,none⟩) hbm] at c3
     have lbm:=below_lt HS.out.bel hbm
     have hmf:=HF.out.mmf hkl
     have hwa:=wdAt_lt HF.out HVF.out hkl
     rw [HL4.out] at hwa
     have HMV:Hid (memV m words v (k+1)=(memV m words v k).set (mmK m k).out.toNat (words[wdAt m v k]?.getD 0)):=rfl
     have HMW:Hid (memWd m words v (k+1)=if atI v (mmK m k).write=1 then (memWd m words v k).set (wdAt m v k) (atI v (mmK m k).data) else memWd m words v k):=rfl
     have hai:=addr_in HF.out HVF.out hkl
     have HWE:Hid (wdAt m v k=4 * k+(atI v (mmK m k).addr).toNat):=rfl
     rw [show m.mems[k]?.getD MmT.zero=mmK m k from rfl] at c0 c1 c2 c3
     generalize wdAt m v k=P at *
     generalize mmK m k=q at *
     obtain ⟨ma,md,mwr,mo⟩:=q
     simp only at c0 c1 c2 c3 HMV HMW hai HWE
     obtain ⟨hA,hD,hW,hO,-⟩:=hmf
     simp only at hA hD hW hO
     obtain ⟨A,rfl⟩:∃A:Nat,ma=(A:Int):=⟨ma.toNat,by have:=hA.1;omega⟩
     obtain ⟨D,rfl⟩:∃A:Nat,md=(A:Int):=⟨md.toNat,by have:=hD.1;omega⟩
     obtain ⟨X,rfl⟩:∃A:Nat,mwr=(A:Int):=⟨mwr.toNat,by have:=hW.1;omega⟩
     obtain ⟨O,rfl⟩:∃A:Nat,mo=(A:Int):=⟨mo.toNat,by have:=hO.1;omega⟩
     have hA2:=hA.2
     have hD2:=hD.2
     have hW2:=hW.2
     have hO2:=hO.2
     rw [HL1.out] at hA2 hD2 hW2 hO2
     rw [Int.toNat_natCast] at HMV
     unfold atI at HMW hai HWE
     simp only [Int.toNat_natCast] at HMW hai HWE
     obtain ⟨bv,ov,hVA,hbv,hcv⟩:=(HS.out.ints 6 rfl).2 (by omega)
     subst hVA
     have hbv:bv<wr.heap.size:=hbv
     have HVC:=Lib.hid (fun (u:World) (hu:Ints u (some ⟨bv,ov,none⟩) sn v)=>(by obtain ⟨b2,o2,h2,h3,h4⟩:=hu.2 (by omega);injection h2 with h2;injection h2 with h2 h2';subst h2 h2';exact ⟨h4 A (by omega),h4 D (by omega),h4 X (by omega),h3⟩:u.cell? ⟨bv,ov+A,none⟩=some (.int .i64 (v[A]?.getD 0))∧u.cell? ⟨bv,ov+D,none⟩=some (.int .i64 (v[D]?.getD 0))∧u.cell? ⟨bv,ov+X,none⟩=some (.int .i64 (v[X]?.getD 0))∧bv<u.heap.size))
     obtain ⟨bw,ow,hWA,hbw,hcw⟩:=HW.out.2 (by omega)
     subst hWA
     have HWC:=Lib.hid (fun (u:World) (hb:Below w.heap.size w u)=>(⟨(hb.cell (p:=⟨bw,ow+P,none⟩) hbw).trans (hcw P hwa.1),below_lt hb hbw⟩:u.cell? ⟨bw,ow+P,none⟩=some (.int .i64 (words[P]?.getD 0))∧bw<u.heap.size))
     generalize words[P]?.getD 0=xw at *
     generalize v[A]?.getD 0=xa at *
     generalize v[D]?.getD 0=xd at *
     generalize v[X]?.getD 0=xx at *
     obtain ⟨a4,rfl⟩:∃A:Nat,xa=(A:Int):=⟨xa.toNat,by omega⟩
     have hPE:=HWE.out
     rw [Int.toNat_natCast] at hPE
     have HPE:Hid (4 * (k:Int)+(a4:Int)=(P:Int)):=by show _=_;omega
     have HPW:Hid (IntKind.i64.wrap (IntKind.i64.wrap (4 * (k:Int))+(a4:Int))=(P:Int)):=by show _=_;rw [IntWalk.i64_in (4 * (k:Int)) ⟨by omega,by omega⟩,IntWalk.i64_in _ ⟨by omega,by omega⟩];omega
     have hP:=hwa.1
     generalize memV m words v k=vk at *
     generalize memWd m words v k=wk at *
     clear hkl hbm hcv hcw hbv hbw hA hD hW hO HWE hwa hPE
     have A0:(0:Int)≤(A:Int):=by omega
     have D0:(0:Int)≤(D:Int):=by omega
     have X0:(0:Int)≤(X:Int):=by omega
     have O0:(0:Int)≤(O:Int):=by omega
     have P0:(0:Int)≤(P:Int):=by omega
     have P1:(P:Int)<4 * (mn:Int):=by omega
     have HS5:=Lib.hid (HS.out.pushBlk #[.int .i64 (A:Int),.int .i64 (D:Int),.int .i64 (X:Int),.int .i64 (O:Int)] 200)
     go_upto_region 17 with fail
     obtain ⟨gY,hgY⟩:∃g,wr.heap.size=g:=⟨_,rfl⟩
     rw [hgY] at HS5
     (try rw [hgY])
     generalize wr.alloc (.cells #[.int .i64 (A:Int),.int .i64 (D:Int),.int .i64 (X:Int),.int .i64 (O:Int)] 200)=W5 at *
     clear c0 c1 c2 c3 lbm hgY x3 lx
     obtain ⟨vA,-,-,lbv⟩:=HVC.out _ (HS5.out.ints 6 rfl)
     obtain ⟨wP,lbw⟩:=HWC.out _ HS5.out.bel
     have y0:=cell_heap (k:=0) (HS5.out.blk 8 rfl).1 rfl
     have y3:=cell_heap (k:=3) (HS5.out.blk 8 rfl).1 rfl
     have ly:=heap_lt0 (HS5.out.blk 8 rfl).1
     have s0:=cell_heap (k:=0) (HS5.out.blk 7 rfl).1 rfl
     have ls:=heap_lt0 (HS5.out.blk 7 rfl).1
     have t1:=cell_heap (k:=1) (HS5.out.blk 3 rfl).1 rfl
     have lt:=heap_lt0 (HS5.out.blk 3 rfl).1
     have HT:Hid (Sepa w W5.drew [.cel (celI (vk)) (.slice (some ⟨g0,0,none⟩) sn sn),.cel (celI (wk)) (.slice WB (4 * mn) wd2),.blk gX #[.slice SA sn sc,.slice AA an ac,.slice JA jn jc,.slice (some ⟨bm,om,none⟩) mn mc] 108,.blk gT #[.slice VA sn vc,.slice (some ⟨bw,ow,none⟩) (4 * mn) wdc] 158,wsB gR (.slice none 0 0) (.slice none 0 0),.cel (celI []) (.slice (some ⟨gO,0,none⟩) 0 0),.cel (celI v) (.slice (some ⟨bv,ov,none⟩) sn tc),wsB gS (.slice (some ⟨g0,0,none⟩) sn sn) (.slice WB (4 * mn) wd2),.blk gY #[.int .i64 (A:Int),.int .i64 (D:Int),.int .i64 (X:Int),.int .i64 (O:Int)] 200]):=Lib.hid HS5.out.drew
     obtain ⟨g9,hg7,_,q8,c8,f8,hu⟩:=HT.out.setI 0 (i:=O) rfl (by omega)
     injection hg7 with hg7
     injection hg7 with hg7
     subst hg7
     refine wp_region_noPanic ?_
     refine wp_region_T 17 (fun w'=>w'.cell? ⟨gS,0,none⟩=some (.slice (some ⟨g0,0,none⟩) sn sn)∧w'.cell? ⟨gY,3,none⟩=some (.int .i64 (O:Int))∧w'.cell? ⟨gT,1,none⟩=some (.slice (some ⟨bw,ow,none⟩) (4 * mn) wdc)∧w'.cell? ⟨gY,0,none⟩=some (.int .i64 (A:Int))∧w'.cell? ⟨bv,ov+A,none⟩=some (.int .i64 (a4:Int))∧w'.cell? ⟨bw,ow+P,none⟩=some (.int .i64 xw)) (⟨s0,y3,t1,y0,vA,wP⟩) (fun hT hD=>?_)
     refine onT hT 0 opA hD ?_
     refine onT hT 1 (opB opA) hD ?_
     refine onT hT 2 (opB (opB opA)) hD ?_
     refine onT hT 3 (opB (opB (opB opA))) hD ?_
     refine onT hT 4 (opC opA) hD ?_
     refine onT hT 5 (opC (opB opA)) hD ?_
     refine onT hT 6 (opC (opB (opB opA))) hD ?_
     refine onT hT 7 (opC (opB (opB (opB opA)))) hD ?_
     refine onT hT 8 (opC (opC opA)) hD ?_
     refine onT hT 9 (opC (opC (opB opA))) hD ?_
     refine onT hT 10 (opC (opC (opB (opB opA)))) hD ?_
     refine onT hT 11 (opC (opC (opB (opB (opB opA))))) hD ?_
     refine onT hT 12 (opC (opC (opC opA))) hD ?_
     refine onT hT 13 (opC (opC (opC (opB opA)))) hD ?_
     rw [HPW.out]
     refine onT hT 14 (opC (opC (opC (opB (opB opA))))) hD ?_
     refine onT hT 15 (opC (opC (opC (opB (opB (opB opA)))))) hD ?_
     refine onT hT 16 (opD opA) hD ?_
     refine lastT hT 17 (opD (opB opA)) ?_
     go_wp2_with fail
     refine NoPanic.normal ?_
     have HS6:=Lib.hid (show Sepa w (W5.setCell ⟨g0,O,none⟩ (.int .i64 xw)).drew _ from hu xw)
     clear y0 y3 ly s0 ls t1 lt q8 c8 f8 hu wP lbw vA lbv
     generalize (W5.setCell ⟨g0,O,none⟩ (.int .i64 xw)).drew=W6 at *
     obtain ⟨vA,vD,vX,lbv⟩:=HVC.out _ (HS6.out.ints 6 rfl)
     have y0:=cell_heap (k:=0) (HS6.out.blk 8 rfl).1 rfl
     have y1:=cell_heap (k:=1) (HS6.out.blk 8 rfl).1 rfl
     have y2:=cell_heap (k:=2) (HS6.out.blk 8 rfl).1 rfl
     have ly:=heap_lt0 (HS6.out.blk 8 rfl).1
     by_cases h1:xx=1
     ·have d1:(xx==1)=true:=by simp [h1]
      rw [if_pos h1] at HMW
      clear h1
      go_upto_region 19 with fail
      obtain ⟨g9,hg7,_,q8,c8,f8,hu⟩:=(HS6.out.drew).setI 1 (i:=P) rfl (by omega)
      subst hg7
      have s1:=cell_heap (k:=1) (HS6.out.blk 7 rfl).1 rfl
      have ls:=heap_lt0 (HS6.out.blk 7 rfl).1
      refine wp_region_noPanic ?_
      refine wp_region_T 16 (fun w'=>w'.cell? ⟨gS,1,none⟩=some (.slice (some ⟨g9,0,none⟩) (4 * mn) wd2)∧w'.cell? ⟨gY,0,none⟩=some (.int .i64 (A:Int))∧w'.cell? ⟨bv,ov+A,none⟩=some (.int .i64 (a4:Int))∧w'.cell? ⟨gY,1,none⟩=some (.int .i64 (D:Int))∧w'.cell? ⟨bv,ov+D,none⟩=some (.int .i64 xd)) (⟨s1,y0,vA,y1,vD⟩) (fun hT hD=>?_)
      refine onT hT 0 opA hD ?_
      refine onT hT 1 (opB opA) hD ?_
      refine onT hT 2 (opB (opB opA)) hD ?_
      refine onT hT 3 (opB (opB (opB opA))) hD ?_
      refine onT hT 4 (opC opA) hD ?_
      refine onT hT 5 (opC (opB opA)) hD ?_
      refine onT hT 6 (opC (opB (opB opA))) hD ?_
      refine onT hT 7 (opC (opB (opB (opB opA)))) hD ?_
      refine onT hT 8 (opC (opC opA)) hD ?_
      refine onT hT 9 (opC (opC (opB opA))) hD ?_
      rw [HPW.out]
      refine onT hT 10 (opC (opC (opB (opB opA)))) hD ?_
      refine onT hT 11 (opC (opC (opB (opB (opB opA))))) hD ?_
      refine onT hT 12 (opC (opC (opC opA))) hD ?_
      refine onT hT 13 (opC (opC (opC (opB opA)))) hD ?_
      refine onT hT 14 (opC (opC (opC (opB (opB opA))))) hD ?_
      refine onT hT 15 (opC (opC (opC (opB (opB (opB opA)))))) hD ?_
      refine lastT hT 16 (opD opA) ?_
      go_wp2_with fail
      refine NoPanic.normal ?_
      have HS9:=Lib.hid ((hu xd).sub (qs:=[_,_,_,_,_,_,_,_]) (List.sublist_append_left [_,_,_,_,_,_,_,_] [_]))
      go_wp2_with fail
      go_roundw
      case rel=>exact ⟨k+1,by omega,by go_num,by rw [HMV.out,HMW.out];exact HS9.out⟩
      case measure=>simp [intOf];omega
     ·have d1:(xx==1)=false:=by simp [h1]
      rw [if_neg h1] at HMW
      have HS9:=Lib.hid (HS6.out.sub (qs:=[_,_,_,_,_,_,_,_]) (List.sublist_append_left [_,_,_,_,_,_,_,_] [_]))
      clear h1
      go_wp2_with fail
      go_roundw
      case rel=>exact ⟨k+1,by omega,by go_num,by rw [HMV.out,HMW.out];exact HS9.out⟩
      case measure=>simp [intOf];omega
    ·have hkn:k=mn:=by omega
     have hdk:decide ((k:Int)<(mn:Int))=false:=by simp;omega
     clear hlt
     subst k
     have HE0:Hid (memV m words v mn=nxtV m words v):=by show _=_;unfold nxtV;rw [HL4.out]
     have HE1:Hid (memWd m words v mn=nxtW m words v):=by show _=_;unfold nxtW;rw [HL4.out]
     have h9:=HS.out
     rw [HE0.out,HE1.out] at h9
     have HS3:=Lib.hid h9
     go_wp2_with fail
     clear HS x3 lx h9
     go_loopw [8,17] (fun q i wr=>∃(k:Nat) (OA:Option Addr) (oc:Nat),k≤sn∧i = .int .i64 (k:Int)∧q = .slice OA (outTo m.sigs v k).length oc∧Sepa w wr [.cel (celI (nxtV m words v)) (.slice (some ⟨g0,0,none⟩) sn sn),.cel (celI (nxtW m words v)) (.slice WB (4 * mn) wd2),.blk gX #[.slice SA sn sc,.slice AA an ac,.slice JA jn jc,.slice MA mn mc] 108,.blk gT #[.slice VA sn vc,.slice WA (4 * mn) wdc] 158,wsB gR (.slice none 0 0) (.slice none 0 0),.cel (celI (outTo m.sigs v k)) (.slice OA (outTo m.sigs v k).length oc),.cel (celI v) (.slice TA sn tc),wsB gS (.slice (some ⟨g0,0,none⟩) sn sn) (.slice WB (4 * mn) wd2)]) (fun _ i _=>sn - (intOf i).toNat)
     case atStart=>exact ⟨0,_,_,by omega,rfl,rfl,HS3.out⟩
     case round =>
      obtain ⟨k,OA,oc,hk,rfl,rfl,hs⟩:=hrel
      have HS:=Lib.hid hs
      clear hs
      have x0:=cell_heap (k:=0) (HS.out.blk 2 rfl).1 rfl
      have lx:=heap_lt0 (HS.out.blk 2 rfl).1
      by_cases hlt:k<sn
      ·have hdk:decide ((k:Int)<(sn:Int))=true:=by simp;omega
       have i0:(0:Int)≤(k:Int):=by omega
       have i1:(k:Int)<(sn:Int):=by omega
       have hkl:k<m.sigs.length:=by rw [HL1.out];exact hlt
       obtain ⟨bs,os,hSA,hbs,c0,c1,c2⟩:=HM.out.sg.sgE (k:=k) hkl
       subst hSA
       have c0:=(HS.out.bel.cell (p:=⟨bs,os+k * 3,none⟩) hbs).trans c0
       have lbs:=below_lt HS.out.bel hbs
       obtain ⟨bv,ov,hVA,hbv,hcv⟩:=(HS.out.ints 6 rfl).2 (by omega)
       subst hVA
       have cv:=hcv k hlt
       have lbv:bv<wr.heap.size:=hbv
       have HTK:Hid (outTo m.sigs v (k+1)=outTo m.sigs v k++if (m.sigs[k]?.getD SgT.zero).kind=1 then [v[k]?.getD 0] else []):=rfl
       have hol:=outTo_len m.sigs v k
       generalize (m.sigs[k]?.getD SgT.zero).kind=kd at *
       generalize v[k]?.getD 0=x at *
       generalize outTo m.sigs v k=ok at *
       clear hkl hbs c1 c2 hbv hcv
       by_cases h3:kd=1
       ·have d3:(kd==1)=true:=by simp [h3]
        rw [if_pos h3] at HTK
        clear h3
        go_wp2_with (at_builtin;refine wpList_sepPush rfl _ _ rfl _ (HS.out.alloc _) 5 OA ok.length oc ok x _ (0,0) rfl rfl rfl (heap_new _ _) (by omega) ?_;intro g9 cap w9 S9 hz9;have HS9:=Lib.hid S9;clear S9 hz9)
        go_roundw
        case rel=>exact ⟨k+1,_,_,by omega,by go_num,by rw [HTK.out,List.length_append];rfl,by rw [HTK.out,List.length_append];exact HS9.out⟩
        case measure=>simp [intOf];omega
       ·have d3:(kd==1)=false:=by simp [h3]
        rw [if_neg h3,List.append_nil] at HTK
        clear h3
        go_wp2_with fail
        go_roundw
        case rel=>exact ⟨k+1,_,_,by omega,by go_num,by rw [HTK.out],by rw [HTK.out];exact HS.out⟩
        case measure=>simp [intOf];omega
      ·have hkn:k=sn:=by omega
       have hdk:decide ((k:Int)<(sn:Int))=false:=by simp;omega
       clear hlt
       subst k
       have HE:Hid (outTo m.sigs v sn=outVals m v):=by show _=_;unfold outVals;rw [HL1.out]
       have h9:=HS.out
       rw [HE.out] at h9
       rw [HE.out]
       clear HS
       have s0:=cell_heap (k:=0) (h9.blk 7 rfl).1 rfl
       have s1:=cell_heap (k:=1) (h9.blk 7 rfl).1 rfl
       have ls:=heap_lt0 (h9.blk 7 rfl).1
       have e0:=cell_heap (k:=0) (h9.blk 4 rfl).1 rfl
       have e1:=cell_heap (k:=1) (h9.blk 4 rfl).1 rfl
       have e2:=fun k=>frozen_heap (h9.blk 4 rfl).1 k
       have le:=heap_lt0 (h9.blk 4 rfl).1
       have HP:=Lib.hid ((h9.put 4 rfl 0 (.slice (some ⟨g0,0,none⟩) sn sn)).put 4 rfl 1 (.slice WB (4 * mn) wd2))
       clear h9
       go_wp2_with fail
       generalize (wr.setCell ⟨gR,0,none⟩ (.slice (some ⟨g0,0,none⟩) sn sn)).setCell ⟨gR,1,none⟩ (.slice WB (4 * mn) wd2)=WF at *
       have hb:WF.heap[gR]?=some (.cells #[.slice (some ⟨g0,0,none⟩) sn sn,.slice WB (4 * mn) wd2] 158 (0,0)):=(HP.out.blk 4 rfl).1
       refine bodyPost_ret (v := .tuple #[.agg #[.slice (some ⟨g0,0,none⟩) sn sn,.slice WB (4 * mn) wd2],.slice OA (outVals m v).length oc]) (results_cell2 Tryz.results104 rfl hb Tryz.underlying158 (by kernel_rfl)) rfl ?_
       have hve:=HVE.out
       subst hve
       exact ⟨g0,WB,wd2,OA,oc,rfl,HP.out.sub (qs:=[_,_,_]) (.cons_cons _ (.cons_cons _ (.cons _ (.cons _ (.cons _ (.cons_cons _ (.cons _ (.cons _ (List.Sublist.refl _)))))))))⟩
end Go.Proofs.YtlinbdkbbhpdpaaGreat
