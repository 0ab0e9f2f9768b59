/- A row of numbers appended to a row of rows among the pieces; it can still be read. The outputs of a run of a flat module in the reference (printed by mkcy7.py). A row of numbers appended to a row of rows among the pieces, where the order is drawn. Runs of a design, in plain terms. Runs of a design, in the reference (printed by mksu2.py). -/
import Derived.Test.YtlinbdkbbhpdpaaGreatSrC5
import Derived.Test.YtlinbdkbbhpdpaaGreatSrG1
import Derived.Test.YtlinbdkbbhpdpaaGreatSrL2
import Derived.Test.YtlinbdkbbhpdpaaGreatSrO
import Derived.Test.YtlinbdkbbhpdpaaGreatSrR
import Derived.Test.YtlinbdkbbhpdpaaGreatSrS8
namespace Go.Proofs.YtlinbdkbbhpdpaaGreat
set_option maxRecDepth 100000
open Go.RowKit

theorem rowQ_info:(Tryz.prog.info? 29).map (fun i=>(i.zero,i.size,i.bytes))=some (some (.slice none 0 0),1,24):=by kernel_rfl
section
variable {ops:Array Oper} {rest:List Oper} {o:Oper} {a:Act} {Q:Exit→Act→World→Prop} {K:Act→World→Prop} {E:Prop} {w W:World}
theorem wpList_sepPushRow (hgd:o.guard=none) (s x:Operand)
  (ho:o.op = .call { callee := .builtin .append,args:=#[s,x],argTypes:=#[26,26] })
  (ps:List Pc) (S:Sepa W w ps) (i j:Nat) (hij:i≠j) (n c:Nat) (A:Option Addr) (L:List (List Int)) (ys:List Int) (TA:Option Addr) (m d B:Nat) (fr:Nat × Nat) (hi:ps[i]?=some (.cel (celR L) (.slice A n c))) (hj:ps[j]?=some (.cel (celI ys) (.slice TA m d)))
  (hs:a.eval s = .slice A n c) (hx:a.eval x = .slice (some ⟨B,0,none⟩) 1 1) (hB:w.heap[B]?=some (.cells #[.slice TA m d] 29 fr)) (hn:n≤1099511627776)
  (h:∀g cap w',Sepa W w' ((ps.set j (.cels [] [])).set i (.cel (celR (L++[ys])) (.slice (some ⟨g,0,none⟩) (n+1) cap)))→Ints w' TA m ys→w.heap.size≤w'.heap.size →
   wpList Tryz.prog ops Q rest (a.put o.dst (.slice (some ⟨g,0,none⟩) (n+1) cap)) w'):wpList Tryz.prog ops Q (o :: rest) a w:=by
 obtain ⟨ti,hi0,hz0,hz1,hz2⟩:=info_parts rowQ_info
 have S2:=S.same j (p' := .cels [celI ys] (#[Value.slice TA m d]:Array Value).toList) hj fun F h=>show OwnL w [celI ys] [.slice TA m d] F from ownL_cons.2 ⟨_,_,F,[],rfl,(List.append_nil F).symm,h,ownL_nil.2 ⟨rfl,rfl⟩⟩
 have hl:j<ps.length:=(List.getElem?_eq_some_iff.1 hj).1
 have hi2:(ps.set j (.cels [celI ys] (#[Value.slice TA m d]:Array Value).toList))[i]?=some (.cel (.row 29 1 (L.map celI)) (.slice A n c)):=by rw [List.getElem?_set_ne (by omega)];exact hi
 have hj2:(ps.set j (.cels [celI ys] (#[Value.slice TA m d]:Array Value).toList))[j]?=some (.cels [celI ys] (#[Value.slice TA m d]:Array Value).toList):=by rw [List.getElem?_set_self hl]
 obtain ⟨Fi,Fj,k1,k2,_,_,k5,_,k7,_⟩:=S2.two i j hij hi2 hj2
 obtain ⟨vs,hro,hvs⟩:=rowVals k1
 obtain ⟨F',hFi,_⟩:=hvs _ k1
 refine wpList_append_lies w hgd s x 26 ho 0 29 ti (.slice none 0 0) 1 24 Tryz.underlying26 hi0 hz0 hz1 hz2 rfl (by decide) (.slice A n c) n vs hs hro ⟨B,0,none⟩ 1 1 [.slice TA m d] hx rfl (news_at hB) (OwnL.one k2) (by omega) (by unfold maxLen;omega) (by omega) (Nat.zero_le _) _ rfl
  fun g cap w' g1 g2 g3 _=>?_
 rw [ownBlock_slice] at g2 g3
 have hS:=sepPush_post _ S2 i j hij 29 1 n (n+1) c A (L.map celI) [celI ys] [.slice TA m d] hi2 hj2 vs hvs g1 g2 g3
 have hke:∀k∈Fj,w'.heap[k]?=w.heap[k]?:=fun k hk=>by
  refine g2.block k (k7 k hk).2 ?_
  cases hA:A with
  | none=>simp
  | some ad =>
   simp only [Option.map_some,ne_eq,Option.some.injEq]
   rintro rfl
   refine k5 _ hk ?_
   rw [hFi,hA]
   simp [_root_.Go.Proofs.YtlinbdkbbhpdpaaGreat.blk]
 have hin:Ints w' TA m ys:=by
  obtain ⟨v0,vs',F1,F2,e,rfl,h1,-⟩:=ownL_cons.1 (show OwnL w [celI ys] [.slice TA m d] Fj from k2)
  injection e with e _
  subst e
  have h2:=h1.keep fun k hk=>hke k (List.mem_append_left _ hk)
  exact (OwnC.rd h2).ints
 rw [List.set_set] at hS
 exact h g cap w' (by rw [celR_snoc];exact hS) hin g2.size
end
end Go.Proofs.YtlinbdkbbhpdpaaGreat

namespace Go.Proofs.YtlinbdkbbhpdpaaGreat
set_option maxRecDepth 100000
open Go.RowKit

set_option maxHeartbeats 8000000 in
theorem sFlatRun_yes (m:MdT) (SA AA JA MA:Option Addr) (sn sc an ac jn jc mn mc:Nat) (o:List Nat) (rows:List (List Int)) (RA:Option Addr) (rn rc:Nat) (w:World) (h:MdRd w m SA AA JA MA sn sc an ac jn jc mn mc) (hf:FlatFit m) (hoe:evalOrd m=some o) (hr:RdC w w.heap.size (celR rows) (.slice RA rn rc)) (h16:rn≤16) (hlen:∀k,k<rn→(rows[k]?.getD []).length=(pwOf m 0).length) :
  Calls Tryz.prog 56 #[.agg #[.slice SA sn sc,.slice AA an ac,.slice JA jn jc,.slice MA mn mc],.slice RA rn rc] w fun e w'=>∃A c,e = .returned (.slice A rn c)∧Sepa w w' [.cel (celR (runs m o rows)) (.slice A rn c)]:=by
 have HL1:=Lib.hid h.lens.1
 have HL2:=Lib.hid h.lens.2.1
 have HL4:=Lib.hid h.lens.2.2.2
 have HM:=Lib.hid h
 have HF:=Lib.hid hf
 have hs30:sn≤30:=by have h1:=hf.cnt.sg;rw [HL1.out] at h1;exact h1
 have ha30:an≤30:=by have h1:=hf.cnt.asg;rw [HL2.out] at h1;exact h1
 have hm2:mn≤2:=by have h1:=hf.cnt.mm;rw [HL4.out] at h1;exact h1
 have HRR:=Lib.hid hr
 have HOL:=Lib.hid (evalOrd_lt hoe)
 have HLE:=Lib.hid hlen
 have HOE:=Lib.hid hoe
 obtain ⟨on,hon⟩:∃n,o.length=n:=⟨_,rfl⟩
 have HNO:=Lib.hid hon
 have hon30:=evalOrd_len hf hoe
 rw [hon] at hon30
 have HRN:Hid (rows.length=rn):=hr.rowsRN
 clear h hf hr hlen hoe hon
 have h0:=(Sepa.refl w).pushBlk #[.slice SA sn sc,.slice AA an ac,.slice JA jn jc,.slice MA mn mc] 108
 go_enter Tryz.func56,Tryz.ntmps56
 go_upto_region 1 with fail
 obtain ⟨gX,hgX⟩:∃g,w.heap.size=g:=⟨_,rfl⟩
 rw [hgX] at h0
 (try rw [hgX])
 clear hgX
 have HS0:=Lib.hid h0
 clear h0
 generalize w.alloc (.cells #[.slice SA sn sc,.slice AA an ac,.slice JA jn jc,.slice MA mn mc] 108)=W9 at *
 have HS1:=Lib.hid (HS0.out.pushNew 29 1)
 go_upto_region 2 with fail
 obtain ⟨gO,hgO⟩:∃g,W9.heap.size=g:=⟨_,rfl⟩
 rw [hgO] at HS1
 (try rw [hgO])
 generalize W9.alloc (.cells #[] 29)=w1 at *
 clear hgO HS0
 have x0:=cell_heap (k:=0) (HS1.out.blk 0 rfl).1 rfl
 have x1:=cell_heap (k:=1) (HS1.out.blk 0 rfl).1 rfl
 have x2:=cell_heap (k:=2) (HS1.out.blk 0 rfl).1 rfl
 have x3:=cell_heap (k:=3) (HS1.out.blk 0 rfl).1 rfl
 have lx:=heap_lt0 (HS1.out.blk 0 rfl).1
 go_wp2_with fail
 refine (sl07RunOk_yes m SA AA JA MA sn sc an ac jn jc mn mc rows RA rn rc _ (HM.out.below HS1.out.bel) (HRR.out.below HS1.out.bel) HF.out h16 HLE.out).mono ?_
 rintro _ w2 ⟨rfl,b1⟩
 replace HS1:=Lib.hid (HS1.out.below b1)
 clear b1 x0 x1 x2 x3 lx
 have x0:=cell_heap (k:=0) (HS1.out.blk 0 rfl).1 rfl
 have x1:=cell_heap (k:=1) (HS1.out.blk 0 rfl).1 rfl
 have x2:=cell_heap (k:=2) (HS1.out.blk 0 rfl).1 rfl
 have x3:=cell_heap (k:=3) (HS1.out.blk 0 rfl).1 rfl
 have lx:=heap_lt0 (HS1.out.blk 0 rfl).1
 go_wp2_with fail
 refine (sFlatStart_yes m SA AA JA MA sn sc an ac jn jc mn mc _ (HM.out.below HS1.out.bel) HF.out).mono ?_
 rintro _ w3 ⟨g0,g1,rfl,S3⟩
 have HS3:=Lib.hid ((HS1.out.join S3).pushBlk #[.slice (some ⟨g0,0,none⟩) sn sn,.slice (some ⟨g1,0,none⟩) (4 * mn) (4 * mn)] 158)
 clear S3 x0 x1 x2 x3 lx HS1
 go_upto_region 5 with fail
 obtain ⟨gS,hgS⟩:∃g,w3.heap.size=g:=⟨_,rfl⟩
 rw [hgS] at HS3
 (try rw [hgS])
 generalize w3.alloc (.cells #[.slice (some ⟨g0,0,none⟩) sn sn,.slice (some ⟨g1,0,none⟩) (4 * mn) (4 * mn)] 158)=W3 at *
 clear hgS
 have HS4:Hid (Sepa w W3 [.blk gX #[.slice SA sn sc,.slice AA an ac,.slice JA jn jc,.slice MA mn mc] 108,.blk gS #[.slice (some ⟨g0,0,none⟩) sn sn,.slice (some ⟨g1,0,none⟩) (4 * mn) (4 * mn)] 158,.cel (celR ((List.range 0).map (fun i=>outVals m (cycV m o rows i)))) (.slice (some ⟨gO,0,none⟩) 0 0),.cel (celI (stTo m o rows 0).1) (.slice (some ⟨g0,0,none⟩) sn sn),.cel (celI (stTo m o rows 0).2) (.slice (some ⟨g1,0,none⟩) (4 * mn) (4 * mn))]):=Lib.hid (HS3.out.permQ (.cons _ (List.perm_append_comm (l₁:=[_,_,_]) (l₂:=[_]))))
 clear HS3
 go_wp2_with fail
 go_loopw [5,7] (fun q i wr=>∃(k:Nat) (B:Option Addr) (d:Nat) (VB:Option Addr) (vd:Nat) (WB:Option Addr) (wd:Nat),k≤rn∧i = .int .i64 (k:Int)∧q = .slice B k d∧Sepa w wr [.blk gX #[.slice SA sn sc,.slice AA an ac,.slice JA jn jc,.slice MA mn mc] 108,.blk gS #[.slice VB sn vd,.slice WB (4 * mn) wd] 158,.cel (celR ((List.range k).map (fun i=>outVals m (cycV m o rows i)))) (.slice B k d),.cel (celI (stTo m o rows k).1) (.slice VB sn vd),.cel (celI (stTo m o rows k).2) (.slice WB (4 * mn) wd)]) (fun _ i _=>rn - (intOf i).toNat)
 case atStart=>exact ⟨0,_,_,_,_,_,_,by omega,rfl,rfl,HS4.out⟩
 case round =>
  obtain ⟨k,B,d,VB,vd,WB,wd,hk,rfl,rfl,hs⟩:=hrel
  have HS:=Lib.hid hs
  clear hs
  by_cases hlt:k<rn
  ·have hdk:decide ((k:Int)<(rn:Int))=true:=by simp;omega
   have i0:(0:Int)≤(k:Int):=by omega
   have i1:(k:Int)<(rn:Int):=by omega
   have hkl:k<rows.length:=by rw [HRN.out];exact hlt
   obtain ⟨br,orr,S,sm,sc',hRA,hbr,cr,rr⟩:=HRR.out.rowsR (k:=k) hkl
   subst hRA
   have cr0:=cr
   have cr:=(HS.out.bel.cell (p:=⟨br,orr+k,none⟩) hbr).trans cr
   have lbr:=below_lt HS.out.bel hbr
   have hsm:=rr.ints.1
   rw [HLE.out k hlt] at hsm
   have HI:=Lib.hid rr.ints
   have HPS:=Lib.hid hsm
   have HCV:Hid (cycV m o rows k=sigVals m o (stTo m o rows k).1 (rows[k]?.getD [])):=rfl
   have HST:=Lib.hid (stTo_fit HF.out HOL.out rows k)
   have HSK:Hid (stTo m o rows (k+1)=(nxtV m (stTo m o rows k).2 (cycV m o rows k),nxtW m (stTo m o rows k).2 (cycV m o rows k))):=rfl
   have HCK:Hid ((List.range (k+1)).map (fun i=>outVals m (cycV m o rows i))=(List.range k).map (fun i=>outVals m (cycV m o rows i))++[outVals m (cycV m o rows k)]):=by show _=_;rw [List.range_succ,List.map_append,List.map_singleton]
   have HBR:=Lib.hid (fun (u:World) (hb:Below w.heap.size w u)=>(hb.cell (p:=⟨br,orr+k,none⟩) hbr).trans cr0)
   generalize rows[k]?.getD []=ins at *
   generalize cycV m o rows k=v at *
   generalize (List.range k).map (fun i=>outVals m (cycV m o rows i))=outk at *
   generalize hst:stTo m o rows k=st at *
   obtain ⟨vals,words⟩:=st
   simp only at HCV HST HSK
   have HFS:=Lib.hid (fun (u:World) (hb:Below w.heap.size w u) (hv:Ints u VB sn vals) (hw:Ints u WB (4 * mn) words)=>by have h1:=sFlatStep_yes m SA AA JA MA sn sc an ac jn jc mn mc o vals words ins VB WB S vd wd sm sc' u (HM.out.below hb) HF.out HST.out HOE.out hv hw (HI.out.below hb) HPS.out;rw [←HCV.out] at h1;exact h1)
   clear hkl hbr rr hsm hst cr0
   have HKP:Hid (∀(u:World) (ps:List Pc),Sepa w u ps→ps[0]?=some (.blk gX #[.slice SA sn sc,.slice AA an ac,.slice JA jn jc,.slice MA mn mc] 108)→ps[1]?=some (.blk gS #[.slice VB sn vd,.slice WB (4 * mn) wd] 158)→u.cell? ⟨gX,0,none⟩=some (.slice SA sn sc)∧u.cell? ⟨gX,1,none⟩=some (.slice AA an ac)∧u.cell? ⟨gX,2,none⟩=some (.slice JA jn jc)∧u.cell? ⟨gX,3,none⟩=some (.slice MA mn mc)∧u.cell? ⟨gS,0,none⟩=some (.slice VB sn vd)∧u.cell? ⟨gS,1,none⟩=some (.slice WB (4 * mn) wd)∧u.cell? ⟨br,orr+k,none⟩=some (.slice S sm sc')):=fun u ps h h0 h1=>⟨cell_heap (k:=0) (h.blk 0 h0).1 rfl,cell_heap (k:=1) (h.blk 0 h0).1 rfl,cell_heap (k:=2) (h.blk 0 h0).1 rfl,cell_heap (k:=3) (h.blk 0 h0).1 rfl,cell_heap (k:=0) (h.blk 1 h1).1 rfl,cell_heap (k:=1) (h.blk 1 h1).1 rfl,HBR.out _ h.bel⟩
   have x0:=cell_heap (k:=0) (HS.out.blk 0 rfl).1 rfl
   have x1:=cell_heap (k:=1) (HS.out.blk 0 rfl).1 rfl
   have x2:=cell_heap (k:=2) (HS.out.blk 0 rfl).1 rfl
   have x3:=cell_heap (k:=3) (HS.out.blk 0 rfl).1 rfl
   have lx:=heap_lt0 (HS.out.blk 0 rfl).1
   have s0:=cell_heap (k:=0) (HS.out.blk 1 rfl).1 rfl
   have s1:=cell_heap (k:=1) (HS.out.blk 1 rfl).1 rfl
   have ls:=heap_lt0 (HS.out.blk 1 rfl).1
   go_upto_region 8 with fail
   have HSX:=Lib.hid HS.out.drew
   go_cut [8,9] (fun p q w'=>∃gN g0 WB2 wd2 TA tc,p = .pointer (some ⟨gN,0,none⟩)∧q = .slice TA (outVals m v).length tc∧Sepa w w' [.blk gX #[.slice SA sn sc,.slice AA an ac,.slice JA jn jc,.slice MA mn mc] 108,.blk gS #[.slice VB sn vd,.slice WB (4 * mn) wd] 158,.cel (celR outk) (.slice B k d),.cel (celI vals) (.slice VB sn vd),.cel (celI words) (.slice WB (4 * mn) wd),.blk gN #[.slice (some ⟨g0,0,none⟩) sn sn,.slice WB2 (4 * mn) wd2] 158,.cel (celI (nxtV m words v)) (.slice (some ⟨g0,0,none⟩) sn sn),.cel (celI (nxtW m words v)) (.slice WB2 (4 * mn) wd2),.cel (celI (outVals m v)) (.slice TA (outVals m v).length tc)])
   case first =>
    go_region_held3 (fun w'=>w'.cell? ⟨gX,0,none⟩=some (.slice SA sn sc)∧w'.cell? ⟨gX,1,none⟩=some (.slice AA an ac)∧w'.cell? ⟨gX,2,none⟩=some (.slice JA jn jc)∧w'.cell? ⟨gX,3,none⟩=some (.slice MA mn mc)∧w'.cell? ⟨gS,0,none⟩=some (.slice VB sn vd)∧w'.cell? ⟨gS,1,none⟩=some (.slice WB (4 * mn) wd)∧w'.cell? ⟨br,orr+k,none⟩=some (.slice S sm sc'))
     (first|with_reducible exact HKP.out _ _ (HSX.out) rfl rfl|with_reducible exact HKP.out _ _ ((HS.out.pushBlk #[.slice none 0 0,.slice none 0 0] 158).drew) rfl rfl|with_reducible exact HKP.out _ _ (HSX.out.pushBlk _ _) rfl rfl|with_reducible exact HKP.out _ _ (((HSX.out.put 5 rfl 0 _).put 5 rfl 1 _)) rfl rfl|with_reducible exact HKP.out _ _ (HSX.out.alloc _) rfl rfl)
     ((first|(go_at_call 104;(first|with_reducible refine synQ HSX.out ?_|with_reducible refine synQ (HS.out.pushBlk #[.slice none 0 0,.slice none 0 0] 158).drew ?_);intro hS;replace HSX:=Lib.hid hS;clear hS;(refine (HFS.out _ HSX.out.bel (HSX.out.ints 3 rfl) (HSX.out.ints 4 rfl)).mono ?_);rintro _ v6 ⟨g0,WB2,wd2,TA,tc,rfl,S6⟩;replace HSX:=Lib.hid (HSX.out.join S6);(try obtain ⟨r0,r1,rf,lr⟩:=box2Q (HSX.out.blk 5 rfl).1);clear S6)))
    all_goals
     go_wp2_with fail
     go_meet
     first
      | exact ⟨_,_,_,_,_,_,rfl,rfl,(HSX.out.put 5 rfl 0 _).put 5 rfl 1 _⟩
      | exact ⟨_,_,_,_,_,_,rfl,rfl,(HSX.out.pushBlk _ _).permQ (.cons _ (.cons _ (.cons _ (.cons _ (.cons _ (List.perm_append_comm (l₁:=[_,_,_]) (l₂:=[_])))))))⟩
   obtain ⟨gN,g0,WB2,wd2,TA,tc,rfl,rfl,hS1⟩:=hcut
   have HS5:=Lib.hid hS1
   clear hS1 HSX HKP HFS HBR x0 x1 x2 x3 lx s0 s1 ls cr lbr
   go_upto_region 10 with (at_builtin;refine wpList_sepPushRow rfl _ _ rfl _ (HS5.out.alloc _) 2 8 (by decide) k d B outk (outVals m v) TA (outVals m v).length tc _ (0,0) rfl rfl rfl rfl (heap_new _ _) (by omega) ?_;intro g9 cap w9 S9 hin9 hz9;have HS9:=Lib.hid S9;clear S9 hin9 hz9)
   clear HS HS5
   have n0:=cell_heap (k:=0) (HS9.out.blk 5 rfl).1 rfl
   have n1:=cell_heap (k:=1) (HS9.out.blk 5 rfl).1 rfl
   have ln:=heap_lt0 (HS9.out.blk 5 rfl).1
   have s0:=cell_heap (k:=0) (HS9.out.blk 1 rfl).1 rfl
   have s1:=cell_heap (k:=1) (HS9.out.blk 1 rfl).1 rfl
   have ls:=heap_lt0 (HS9.out.blk 1 rfl).1
   have sf:=fun k=>frozen_heap (HS9.out.blk 1 rfl).1 k
   have HP:=Lib.hid (((HS9.out.put 1 rfl 0 (.slice (some ⟨g0,0,none⟩) sn sn)).put 1 rfl 1 (.slice WB2 (4 * mn) wd2)).sub (qs:=[_,_,_,_,_]) (.cons_cons _ (.cons_cons _ (.cons_cons _ (.cons _ (.cons _ (.cons _ (.cons_cons _ (.cons_cons _ (.cons _ (List.Sublist.refl _)))))))))))
   go_wp2_with fail
   go_roundw
   case rel=>exact ⟨k+1,_,_,_,_,_,_,by omega,by go_num,rfl,by rw [HSK.out,HCK.out];exact HP.out⟩
   case measure=>simp [intOf];omega
  ·have hkn:k=rn:=by omega
   have hdk:decide ((k:Int)<(rn:Int))=false:=by simp;omega
   clear hlt
   subst k
   have HE:Hid ((List.range rn).map (fun i=>outVals m (cycV m o rows i))=runs m o rows):=by show _=_;unfold runs;rw [HRN.out]
   have h9:=HS.out
   rw [HE.out] at h9
   have HG:=Lib.hid (h9.sub (qs:=[_]) (.cons _ (.cons _ (.cons_cons _ (.cons _ (.cons _ (List.Sublist.refl _)))))))
   clear HS h9
   go_wp2_with fail
   go_ret
   exact ⟨_,_,rfl,HG.out⟩
end Go.Proofs.YtlinbdkbbhpdpaaGreat

namespace Go.Proofs.YtlinbdkbbhpdpaaGreat
set_option maxRecDepth 100000
open Go.RowKit

section
variable {ops:Array Oper} {o:Oper} {a:Act} {Q:Exit→Act→World→Prop} {K:Act→World→Prop} {E:Prop} {w W:World}
theorem step_sepPushRow (hgd:o.guard=none) (s x:Operand)
  (ho:o.op = .call { callee := .builtin .append,args:=#[s,x],argTypes:=#[26,26] })
  (ps:List Pc) (S:Sepa W w ps) (i j:Nat) (hij:i≠j) (n c:Nat) (A:Option Addr) (L:List (List Int)) (ys:List Int) (TA:Option Addr) (m d B:Nat) (fr:Nat × Nat) (hi:ps[i]?=some (.cel (celR L) (.slice A n c))) (hj:ps[j]?=some (.cel (celI ys) (.slice TA m d)))
  (hs:a.eval s = .slice A n c) (hx:a.eval x = .slice (some ⟨B,0,none⟩) 1 1) (hB:w.heap[B]?=some (.cells #[.slice TA m d] 29 fr)) (hn:n≤1099511627776)
  (h:∀g cap w',Sepa W w' ((ps.set j (.cels [] [])).set i (.cel (celR (L++[ys])) (.slice (some ⟨g,0,none⟩) (n+1) cap)))→Ints w' TA m ys→w.heap.size≤w'.heap.size →
   K (a.put o.dst (.slice (some ⟨g,0,none⟩) (n+1) cap)) w'):if Region.wanted o (yielded ops a.tmps)=true then Oper.wp Tryz.prog o a w K Q else E:=by
 obtain ⟨ti,hi0,hz0,hz1,hz2⟩:=info_parts rowQ_info
 have S2:=S.same j (p' := .cels [celI ys] (#[Value.slice TA m d]:Array Value).toList) hj fun F h=>show OwnL w [celI ys] [.slice TA m d] F from ownL_cons.2 ⟨_,_,F,[],rfl,(List.append_nil F).symm,h,ownL_nil.2 ⟨rfl,rfl⟩⟩
 have hl:j<ps.length:=(List.getElem?_eq_some_iff.1 hj).1
 have hi2:(ps.set j (.cels [celI ys] (#[Value.slice TA m d]:Array Value).toList))[i]?=some (.cel (.row 29 1 (L.map celI)) (.slice A n c)):=by rw [List.getElem?_set_ne (by omega)];exact hi
 have hj2:(ps.set j (.cels [celI ys] (#[Value.slice TA m d]:Array Value).toList))[j]?=some (.cels [celI ys] (#[Value.slice TA m d]:Array Value).toList):=by rw [List.getElem?_set_self hl]
 obtain ⟨Fi,Fj,k1,k2,_,_,k5,_,k7,_⟩:=S2.two i j hij hi2 hj2
 obtain ⟨vs,hro,hvs⟩:=rowVals k1
 obtain ⟨F',hFi,_⟩:=hvs _ k1
 refine step_append_lies w hgd s x 26 ho 0 29 ti (.slice none 0 0) 1 24 Tryz.underlying26 hi0 hz0 hz1 hz2 rfl (by decide) (.slice A n c) n vs hs hro ⟨B,0,none⟩ 1 1 [.slice TA m d] hx rfl (news_at hB) (OwnL.one k2) (by omega) (by unfold maxLen;omega) (by omega) (Nat.zero_le _) _ rfl
  fun g cap w' g1 g2 g3 _=>?_
 rw [ownBlock_slice] at g2 g3
 have hS:=sepPush_post _ S2 i j hij 29 1 n (n+1) c A (L.map celI) [celI ys] [.slice TA m d] hi2 hj2 vs hvs g1 g2 g3
 have hke:∀k∈Fj,w'.heap[k]?=w.heap[k]?:=fun k hk=>by
  refine g2.block k (k7 k hk).2 ?_
  cases hA:A with
  | none=>simp
  | some ad =>
   simp only [Option.map_some,ne_eq,Option.some.injEq]
   rintro rfl
   refine k5 _ hk ?_
   rw [hFi,hA]
   simp [_root_.Go.Proofs.YtlinbdkbbhpdpaaGreat.blk]
 have hin:Ints w' TA m ys:=by
  obtain ⟨v0,vs',F1,F2,e,rfl,h1,-⟩:=ownL_cons.1 (show OwnL w [celI ys] [.slice TA m d] Fj from k2)
  injection e with e _
  subst e
  have h2:=h1.keep fun k hk=>hke k (List.mem_append_left _ hk)
  exact (OwnC.rd h2).ints
 rw [List.set_set] at hS
 exact h g cap w' (by rw [celR_snoc];exact hS) hin g2.size
/-- A number is appended to a row of numbers; the headers of another row stay. -/
theorem step_sepPushAt (hgd:o.guard=none) (s x:Operand)
  (ho:o.op = .call { callee := .builtin .append,args:=#[s,x],argTypes:=#[29,29] })
  (ps:List Pc) (S:Sepa W w ps) (i j:Nat) (hij:i≠j) (A:Option Addr) (n c:Nat) (xs:List Int) (y:Int) (B:Nat) (fr:Nat × Nat) (hi:ps[i]?=some (.cel (celI xs) (.slice A n c))) {e sz b q m d:Nat} {cs:List Cel} (hj:ps[j]?=some (.cel (.row e sz cs) (.slice (some ⟨b,q,none⟩) m d))) (hs:a.eval s = .slice A n c) (hx:a.eval x = .slice (some ⟨B,0,none⟩) 1 1) (hB:w.heap[B]?=some (.cells #[.int .i64 y] 3 fr))
  (hn:n≤1099511627776)
  (h:∀g cap w',Sepa W w' (ps.set i (.cel (celI (xs++[y])) (.slice (some ⟨g,0,none⟩) (n+1) cap)))→(∀k,w'.cell? ⟨b,k,none⟩=w.cell? ⟨b,k,none⟩) →
   K (a.put o.dst (.slice (some ⟨g,0,none⟩) (n+1) cap)) w'):if Region.wanted o (yielded ops a.tmps)=true then Oper.wp Tryz.prog o a w K Q else E:=by
 obtain ⟨i0,hi0,hz0,hz1,hz2⟩:=info_parts int_info
 obtain ⟨Fi,Fj,k1,k2,_,_,k5,_,k7,_⟩:=S.two i j hij hi hj
 obtain ⟨_,rfl⟩:=ownC_ints.1 (show OwnC w (celI xs) (.slice A n c) Fi from k1)
 have k2':OwnC w (.row e sz cs) (.slice (some ⟨b,q,none⟩) m d) Fj:=k2
 rw [ownC_row] at k2'
 obtain ⟨A',n',c',vs,F',hv,_,rfl,_⟩:=k2'
 injection hv with hA _ _
 subst hA
 have hbj:b∈blk (some (⟨b,q,none⟩:Addr))++F':=by simp [blk]
 refine step_append_lies w hgd s x 29 ho 0 3 i0 (.int .i64 0) 1 8 Tryz.underlying29 hi0 hz0 hz1 hz2 rfl (by omega) (.slice A n c) n (xs.map (Value.int .i64)) hs (sepInts_own ps S i n c A xs hi) ⟨B,0,none⟩ 1 1 [.int .i64 y] hx rfl (news_at hB) (fun u hu=>by simp at hu;subst hu;rfl) (by omega) (by unfold maxLen;omega) (by omega) (Nat.zero_le _) _ rfl
  fun g cap w' g1 g2 g3 _=>?_
 rw [ownBlock_slice] at g2 g3
 refine h g cap w' (sepInts_post ps S i n (n+1) c A xs [y] hi g1 g2 g3) fun k=>World.cell?_of_block (a:=⟨b,k,none⟩) (g2.block b (k7 b hbj).2 ?_)
 cases hA:A with
 | none=>simp
 | some ad =>
  simp only [Option.map_some,ne_eq,Option.some.injEq]
  intro hb
  refine k5 b hbj ?_
  rw [hA]
  simp [blk,←hb]
end
end Go.Proofs.YtlinbdkbbhpdpaaGreat

namespace Go.Proofs.YtlinbdkbbhpdpaaGreat
set_option maxRecDepth 100000
open Go.RowKit

theorem pwTo_wd {m:MdT} (h:FlatFit m) {kind:Int}:∀{k:Nat} {x:Int},k≤m.sigs.length→x∈pwTo m.sigs kind k→1≤x∧x≤4
 | 0,x,_,hx=>by simp [pwTo] at hx
 | k+1,x,hk,hx=>by
  rw [pwTo,List.mem_append] at hx
  rcases hx with hx|hx
  ·exact pwTo_wd h (by omega) hx
  ·split at hx
   ·rw [List.mem_singleton] at hx
    subst hx
    exact h.wd (by omega)
   ·simp at hx
theorem FlatFit.wds {m:MdT} (h:FlatFit m) (kind:Int):Wds (pwOf m kind):=by
 intro k hk
 have hm:pwOf m kind=pwTo m.sigs kind m.sigs.length:=by unfold pwOf;rw [if_pos h.cnt.sg]
 rw [List.getElem?_eq_getElem hk,Option.getD_some]
 have h1:(pwOf m kind)[k]∈pwOf m kind:=List.getElem_mem hk
 generalize (pwOf m kind)[k]=x at *
 rw [hm] at h1
 exact pwTo_wd h (Nat.le_refl _) h1
theorem pwOf_len30 {m:MdT} (h:FlatFit m) (kind:Int):(pwOf m kind).length≤30:=by
 have hm:pwOf m kind=pwTo m.sigs kind m.sigs.length:=by unfold pwOf;rw [if_pos h.cnt.sg]
 rw [hm]
 exact Nat.le_trans (pwTo_len _ _ _) h.cnt.sg
theorem outTo_pw (sg:List SgT) (v:List Int):∀k,(outTo sg v k).length=(pwTo sg 1 k).length
 | 0=>rfl
 | k+1=>by
  rw [outTo,pwTo,List.length_append,List.length_append,outTo_pw sg v k]
  split <;> rfl
theorem outVals_pw {m:MdT} (h:FlatFit m) (v:List Int):(outVals m v).length=(pwOf m 1).length:=by
 unfold outVals pwOf
 rw [if_pos h.cnt.sg]
 exact outTo_pw _ _ _
/-- The outputs of a run of a design with a parameter. -/
noncomputable def srcD (d:List MdT) (p:Int) (ins:List Int):List Int:=match flatD d p with
 | none=>[]
 | some m=>match evalOrd m with
  | none=>[]
  | some o=>if ins.length≤16 then (runs m o (ins.map (unp (pwOf m 0)))).map (pck (pwOf m 1)) else []
theorem srcD_none {d:List MdT} {p:Int} (ins:List Int) (h:flatD d p=none):srcD d p ins=[]:=by unfold srcD;rw [h]
theorem srcD_long {d:List MdT} {p:Int} {ins:List Int} (h:¬ins.length≤16):srcD d p ins=[]:=by
 unfold srcD
 split
 ·rfl
 ·split
  ·rfl
  ·rw [if_neg h]
theorem srcD_some {d:List MdT} {p:Int} {ins:List Int} {m:MdT} {o:List Nat} (h:flatD d p=some m) (ho:evalOrd m=some o) (hl:ins.length≤16):srcD d p ins=(runs m o (ins.map (unp (pwOf m 0)))).map (pck (pwOf m 1)):=by
 unfold srcD
 rw [h]
 show (match evalOrd m with
  | none=>[]
  | some o=>if ins.length≤16 then (runs m o (ins.map (unp (pwOf m 0)))).map (pck (pwOf m 1)) else [])=_
 rw [ho]
 exact if_pos hl
theorem rows_lenS {m:MdT} {ins:List Int} {n:Nat} (hn:ins.length=n):∀k,k<n→((ins.map (unp (pwOf m 0)))[k]?.getD []).length=(pwOf m 0).length:=by
 intro k hk
 rw [List.getElem?_map,List.getElem?_eq_getElem (by omega)]
 exact unTo_len _ _ _
theorem runs_len (m:MdT) (o:List Nat) (ins:List (List Int)):(runs m o ins).length=ins.length:=by simp [runs]
theorem runs_at {m:MdT} (h:FlatFit m) (o:List Nat) (ins:List (List Int)) {k:Nat} (hk:k<ins.length):((runs m o ins)[k]?.getD []).length=(pwOf m 1).length:=by
 unfold runs
 rw [List.getElem?_map,List.getElem?_eq_getElem (by simpa using hk)]
 exact outVals_pw h _
theorem take_snocL {l:List (List Int)} {k:Nat} (h:k<l.length):l.take (k+1)=l.take k++[l[k]?.getD []]:=by
 rw [List.take_add_one,List.getElem?_eq_getElem h];rfl
end Go.Proofs.YtlinbdkbbhpdpaaGreat

namespace Go.Proofs.YtlinbdkbbhpdpaaGreat
set_option maxRecDepth 100000
open Go.RowKit

set_option maxHeartbeats 8000000 in
theorem ssourceRun_any (d:List MdT) (DA:Option Addr) (dn dc:Nat) (p:Int) (ins:List Int) (IA:Option Addr) (inn ic:Nat) (w:World) (h:RdC w w.heap.size (celMd d) (.slice DA dn dc)) (hi:Ints w IA inn ins) :
  Calls Tryz.prog 15 #[.agg #[.slice DA dn dc],.int .i64 p,.slice IA inn ic] w fun e w'=>∃A n c,e = .returned (.slice A n c)∧Sepa w w' [.cel (celI (srcD d p ins)) (.slice A n c)]:=by
 have HD:=Lib.hid h
 have HI:=Lib.hid hi
 have HIL:=Lib.hid hi.1
 clear h hi
 have h0:=((Sepa.refl w).pushBlk #[.slice DA dn dc] 48).pushNew 3 1
 simp only [World.size_alloc] at h0
 go_enter Tryz.func15,Tryz.ntmps15
 go_upto_region 2 with fail
 obtain ⟨gB,hgB⟩:∃g,w.heap.size=g:=⟨_,rfl⟩
 obtain ⟨gO,hgO⟩:∃g,w.heap.size+1=g:=⟨_,rfl⟩
 rw [hgO] at h0
 (try rw [hgO])
 rw [hgB] at h0
 (try rw [hgB])
 clear hgB hgO
 have HS0:=Lib.hid h0
 clear h0
 generalize (w.alloc (.cells #[.slice DA dn dc] 48)).alloc (.cells #[] 3)=W9 at *
 have x0:=cell_heap (k:=0) (HS0.out.blk 0 rfl).1 rfl
 have lx:=heap_lt0 (HS0.out.blk 0 rfl).1
 go_wp2_with fail
 refine (sflatten_any d DA dn dc p _ (HD.out.below HS0.out.bel)).mono ?_
 rintro _ w2 (⟨m,SA,sc,AA,ac,MA,mc,hfd,rfl,S2⟩|⟨hfd,rfl,b2⟩)
 rotate_left
 ·have HB:=Lib.hid ((HS0.out.below b2).alloc (.cells #[.slice none 0 0,.slice none 0 0,.slice none 0 0,.slice none 0 0] 108))
  have HE:Hid (srcD d p ins=[]):=srcD_none ins hfd
  clear x0 lx HS0 b2 hfd
  go_wp2_with fail
  go_ret
  exact ⟨_,_,_,rfl,by rw [HE.out];exact HB.out.sub (qs:=[_]) (.cons _ (.cons_cons _ .slnil))⟩
 have HF:=Lib.hid (flatD_fit hfd)
 obtain ⟨o,hoe⟩:=HF.out.ord
 have HOE:=Lib.hid hoe
 have HW0:=Lib.hid (HF.out.wds 0)
 have HW1:=Lib.hid (HF.out.wds 1)
 have HU0:Hid (sumI (pwOf m 0)≤20):=by have h1:=HF.out.ins;show _≤_;omega
 have HU1:Hid (sumI (pwOf m 1)≤20):=by have h1:=HF.out.outs;show _≤_;omega
 have HP0:=Lib.hid (pwOf_len30 HF.out 0)
 have HP1:=Lib.hid (pwOf_len30 HF.out 1)
 have HFD:=Lib.hid hfd
 have hS3:=(((HS0.out.join S2).pushBlk #[.slice SA m.sigs.length sc,.slice AA m.asgs.length ac,.slice none 0 0,.slice MA m.mems.length mc] 108).sub (qs:=[_,_,_,_,_]) (.cons _ (.cons_cons _ (.cons_cons _ (.cons_cons _ (.cons_cons _ (.cons_cons _ .slnil))))))).permQ (List.perm_append_comm (l₁:=[_]) (l₂:=[_,_,_,_]))
 go_upto_region 3 with fail
 obtain ⟨gX,hgX⟩:∃g,w2.heap.size=g:=⟨_,rfl⟩
 rw [hgX] at hS3
 (try rw [hgX])
 generalize w2.alloc (.cells #[.slice SA m.sigs.length sc,.slice AA m.asgs.length ac,.slice none 0 0,.slice MA m.mems.length mc] 108)=wB at *
 have HS5:Hid (Sepa w wB [sgP m.sigs SA sc,asP m.asgs AA ac,mmP m.mems MA mc,.blk gX #[.slice SA m.sigs.length sc,.slice AA m.asgs.length ac,.slice none 0 0,.slice MA m.mems.length mc] 108,.cel (celI []) (.slice (some ⟨gO,0,none⟩) 0 0)]):=hS3
 have HMK:Hid (∀(v:World) (ps:List Pc),Sepa w v ps→ps[0]?=some (sgP m.sigs SA sc)→ps[1]?=some (asP m.asgs AA ac)→ps[2]?=some (mmP m.mems MA mc)→MdRd v m SA AA none MA m.sigs.length sc m.asgs.length ac 0 0 m.mems.length mc):=fun v ps h h0 h1 h2=>⟨h.rd 0 h0,h.rd 1 h1,by rw [List.eq_nil_of_length_eq_zero HF.out.no_ins];exact ((Sepa.refl v).pushNil 202 3).rd 0 rfl,h.rd 2 h2⟩
 clear hS3 S2 hfd hoe x0 lx HS0 hgX
 by_cases hin:inn≤16
 rotate_left
 ·have d16:decide ((16:Int)<(inn:Int))=true:=decide_eq_true (by omega)
  have HE:Hid (srcD d p ins=[]):=srcD_long (by rw [HIL.out];exact hin)
  clear hin
  go_wp2_with fail
  go_ret
  exact ⟨_,_,_,rfl,by rw [HE.out];exact HS5.out.sub (qs:=[_]) (.cons _ (.cons _ (.cons _ (.cons _ (.cons_cons _ .slnil)))))⟩
 have d16:decide ((16:Int)<(inn:Int))=false:=decide_eq_false (by omega)
 have HS1:=Lib.hid (HS5.out.pushNew 29 1)
 go_wp2_with fail
 clear d16 HS5
 go_loopw [10,11] (fun q i wr=>∃(k:Nat) (B:Option Addr) (c:Nat),k≤inn∧i = .int .i64 (k:Int)∧q = .slice B k c∧Sepa w wr [sgP m.sigs SA sc,asP m.asgs AA ac,mmP m.mems MA mc,.blk gX #[.slice SA m.sigs.length sc,.slice AA m.asgs.length ac,.slice none 0 0,.slice MA m.mems.length mc] 108,.cel (celI []) (.slice (some ⟨gO,0,none⟩) 0 0),.cel (celR ((ins.take k).map (unp (pwOf m 0)))) (.slice B k c)]) (fun _ i _=>inn - (intOf i).toNat)
 case atStart=>exact ⟨0,_,_,by omega,rfl,rfl,HS1.out⟩
 case round =>
  obtain ⟨k,B,c,hk,rfl,rfl,hs⟩:=hrel
  have HS:=Lib.hid hs
  clear hs
  by_cases hlt:k<inn
  ·have hdk:decide ((k:Int)<(inn:Int))=true:=by simp;omega
   have i0:(0:Int)≤(k:Int):=by omega
   have i1:(k:Int)<(inn:Int):=by omega
   obtain ⟨bi,oi,hIA,hbi,hci⟩:=HI.out.2 (by omega)
   have ci:=(HS.out.bel.cell (p:=⟨bi,oi+k,none⟩) hbi).trans (hci k hlt)
   have lbi:=below_lt HS.out.bel hbi
   subst hIA
   have HTK:Hid ((ins.take (k+1)).map (unp (pwOf m 0))=(ins.take k).map (unp (pwOf m 0))++[unp (pwOf m 0) (ins[k]?.getD 0)]):=by show _=_;rw [take_snocI (by rw [HIL.out];exact hlt),List.map_append,List.map_singleton]
   have hck:=hci k hlt
   generalize ins[k]?.getD 0=x at *
   have HKP:Hid (∀(v:World) (ps:List Pc),Sepa w v ps→ps[3]?=some (.blk gX #[.slice SA m.sigs.length sc,.slice AA m.asgs.length ac,.slice none 0 0,.slice MA m.mems.length mc] 108)→v.cell? ⟨gX,0,none⟩=some (.slice SA m.sigs.length sc)∧v.cell? ⟨gX,1,none⟩=some (.slice AA m.asgs.length ac)∧v.cell? ⟨gX,2,none⟩=some (.slice none 0 0)∧v.cell? ⟨gX,3,none⟩=some (.slice MA m.mems.length mc)∧v.cell? ⟨bi,oi+k,none⟩=some (.int .i64 x)):=fun v ps h h3=>⟨cell_heap (k:=0) (h.blk 3 h3).1 rfl,cell_heap (k:=1) (h.blk 3 h3).1 rfl,cell_heap (k:=2) (h.blk 3 h3).1 rfl,cell_heap (k:=3) (h.blk 3 h3).1 rfl,(h.bel.cell (p:=⟨bi,oi+k,none⟩) hbi).trans hck⟩
   clear hci hbi hck
   have x0:=cell_heap (k:=0) (HS.out.blk 3 rfl).1 rfl
   have x1:=cell_heap (k:=1) (HS.out.blk 3 rfl).1 rfl
   have x2:=cell_heap (k:=2) (HS.out.blk 3 rfl).1 rfl
   have x3:=cell_heap (k:=3) (HS.out.blk 3 rfl).1 rfl
   have lx:=heap_lt0 (HS.out.blk 3 rfl).1
   go_upto_region 9 with fail
   have HSX:=Lib.hid HS.out.drew
   go_region_held3 (fun w'=>w'.cell? ⟨gX,0,none⟩=some (.slice SA m.sigs.length sc)∧w'.cell? ⟨gX,1,none⟩=some (.slice AA m.asgs.length ac)∧w'.cell? ⟨gX,2,none⟩=some (.slice none 0 0)∧w'.cell? ⟨gX,3,none⟩=some (.slice MA m.mems.length mc)∧w'.cell? ⟨bi,oi+k,none⟩=some (.int .i64 x))
    (first|with_reducible exact HKP.out _ _ HSX.out rfl|with_reducible exact HKP.out _ _ (HSX.out.alloc _) rfl|with_reducible exact HKP.out _ _ HS9.out rfl)
    ((first
     | (go_at_call 55;(refine (sportWidths_any m SA AA none MA m.sigs.length sc m.asgs.length ac 0 0 m.mems.length mc 0 _ (HMK.out _ _ HSX.out rfl rfl rfl)).mono ?_);rintro _ w5 ⟨A5,c5,rfl,S5⟩;replace HSX:=Lib.hid (HSX.out.join S5);clear S5)
     | (go_at_call 54;(refine (sunpackBits_any A5 _ c5 _ x _ (HSX.out.ints 6 rfl) HW0.out HU0.out HP0.out).mono ?_);rintro _ w6 ⟨B6,d6,rfl,S6⟩;replace HSX:=Lib.hid (HSX.out.join S6);clear S6)
     | (refine step_sepPushRow rfl _ _ (by rfl) _ (HSX.out.alloc _) 5 7 (by decide) k c B ((ins.take k).map (unp (pwOf m 0))) _ B6 (pwOf m 0).length d6 _ (0,0) rfl rfl (by rfl) (by rfl) (heap_new _ _) (by omega) ?_;intro g9 cap w9 S9 hin9 hz9;have HS9:=Lib.hid (S9.sub (qs:=[_,_,_,_,_,_]) (List.sublist_append_left [_,_,_,_,_,_] [_,_]));clear S9 hin9 hz9)))
   all_goals
    go_wp2_with fail
    go_roundw
    case rel=>exact ⟨k+1,_,_,by omega,by go_num,rfl,by rw [HTK.out];exact HS9.out⟩
    case measure=>simp [intOf];omega
  ·have hkn:k=inn:=by omega
   have hdk:decide ((k:Int)<(inn:Int))=false:=by simp;omega
   clear hlt
   subst k
   have h9:=HS.out
   rw [List.take_of_length_le (by rw [HIL.out];exact Nat.le_refl _)] at h9
   have HRW:=Lib.hid h9
   clear HS h9
   generalize hrw:ins.map (unp (pwOf m 0))=rows at *
   have HRE:=Lib.hid hrw
   clear hrw
   have x0:=cell_heap (k:=0) (HRW.out.blk 3 rfl).1 rfl
   have x1:=cell_heap (k:=1) (HRW.out.blk 3 rfl).1 rfl
   have x2:=cell_heap (k:=2) (HRW.out.blk 3 rfl).1 rfl
   have x3:=cell_heap (k:=3) (HRW.out.blk 3 rfl).1 rfl
   have lx:=heap_lt0 (HRW.out.blk 3 rfl).1
   go_wp2_with fail
   refine (sFlatRun_yes m SA AA none MA m.sigs.length sc m.asgs.length ac 0 0 m.mems.length mc o rows B inn c _ (HMK.out _ _ HRW.out rfl rfl rfl) HF.out HOE.out (HRW.out.rd 5 rfl) hin (by rw [←HRE.out];exact rows_lenS HIL.out)).mono ?_
   rintro _ w3 ⟨RA,rc,rfl,S3⟩
   have HS3:=Lib.hid ((HRW.out.join S3).sub (qs:=[_,_,_,_,_,_]) (.cons_cons _ (.cons_cons _ (.cons_cons _ (.cons_cons _ (.cons_cons _ (.cons _ (.cons_cons _ .slnil))))))))
   have HRL:Hid (rows.length=inn):=by show _=_;rw [←HRE.out,List.length_map,HIL.out]
   have HSRC:Hid (srcD d p ins=(runs m o rows).map (pck (pwOf m 1))):=by show _=_;rw [srcD_some HFD.out HOE.out (by rw [HIL.out];exact hin),HRE.out]
   clear S3 HRW x0 x1 x2 x3 lx
   go_wp2_with fail
   go_loopw [7,13] (fun q i wr=>∃(k:Nat) (B:Option Addr) (c:Nat),k≤inn∧i = .int .i64 (k:Int)∧q = .slice B k c∧Sepa w wr [sgP m.sigs SA sc,asP m.asgs AA ac,mmP m.mems MA mc,.blk gX #[.slice SA m.sigs.length sc,.slice AA m.asgs.length ac,.slice none 0 0,.slice MA m.mems.length mc] 108,.cel (celI (((runs m o rows).take k).map (pck (pwOf m 1)))) (.slice B k c),.cel (celR (runs m o rows)) (.slice RA inn rc)]) (fun _ i _=>inn - (intOf i).toNat)
   case atStart=>exact ⟨0,_,_,by omega,rfl,rfl,HS3.out⟩
   case round =>
    obtain ⟨k,B,c,hk,rfl,rfl,hs⟩:=hrel
    have HS:=Lib.hid hs
    clear hs
    by_cases hlt:k<inn
    ·have hdk:decide ((k:Int)<(inn:Int))=true:=by simp;omega
     have i0:(0:Int)≤(k:Int):=by omega
     have i1:(k:Int)<(inn:Int):=by omega
     obtain ⟨ba,oa,S,sm,sc',hA,hba,ca,ra⟩:=(HS.out.rd 5 rfl).rowsR (k:=k) (by rw [runs_len,HRL.out];exact hlt)
     have hri:=ra.ints
     have hsm:sm=(pwOf m 1).length:=by rw [←hri.1];exact runs_at HF.out o rows (by rw [HRL.out];exact hlt)
     subst hsm
     have HRI:=Lib.hid hri
     have HTK:Hid (((runs m o rows).take (k+1)).map (pck (pwOf m 1))=((runs m o rows).take k).map (pck (pwOf m 1))++[pck (pwOf m 1) ((runs m o rows)[k]?.getD [])]):=by show _=_;rw [take_snocL (by rw [runs_len,HRL.out];exact hlt),List.map_append,List.map_singleton]
     generalize (runs m o rows)[k]?.getD []=v at *
     subst hA
     have lba:ba<wr.heap.size:=hba
     clear hba ra hri
     have x0:=cell_heap (k:=0) (HS.out.blk 3 rfl).1 rfl
     have x1:=cell_heap (k:=1) (HS.out.blk 3 rfl).1 rfl
     have x2:=cell_heap (k:=2) (HS.out.blk 3 rfl).1 rfl
     have x3:=cell_heap (k:=3) (HS.out.blk 3 rfl).1 rfl
     have lx:=heap_lt0 (HS.out.blk 3 rfl).1
     go_upto_region 14 with fail
     have HKP:Hid (∀(u:World),Below wr.heap.size wr u→u.cell? ⟨gX,0,none⟩=some (.slice SA m.sigs.length sc)∧u.cell? ⟨gX,1,none⟩=some (.slice AA m.asgs.length ac)∧u.cell? ⟨gX,2,none⟩=some (.slice none 0 0)∧u.cell? ⟨gX,3,none⟩=some (.slice MA m.mems.length mc)∧u.cell? ⟨ba,oa+k,none⟩=some (.slice S (pwOf m 1).length sc')):=fun u hu=>⟨(hu.cell lx).trans x0,(hu.cell lx).trans x1,(hu.cell lx).trans x2,(hu.cell lx).trans x3,(hu.cell lba).trans ca⟩
     have HSX:=Lib.hid HS.out.drew
     have HBL:=Lib.hid (Below.refl wr.heap.size wr).drew
     have HRX:=Lib.hid (HRI.out.below HBL.out)
     go_region_held3 (fun w'=>w'.cell? ⟨gX,0,none⟩=some (.slice SA m.sigs.length sc)∧w'.cell? ⟨gX,1,none⟩=some (.slice AA m.asgs.length ac)∧w'.cell? ⟨gX,2,none⟩=some (.slice none 0 0)∧w'.cell? ⟨gX,3,none⟩=some (.slice MA m.mems.length mc)∧w'.cell? ⟨ba,oa+k,none⟩=some (.slice S (pwOf m 1).length sc'))
      (first|with_reducible exact HKP.out _ HBL.out|with_reducible exact HKP.out _ (below_new HBL.out _)|exact HC9.out)
      ((first
       | (go_at_call 55;(refine (sportWidths_any m SA AA none MA m.sigs.length sc m.asgs.length ac 0 0 m.mems.length mc 1 _ (HMK.out _ _ HSX.out rfl rfl rfl)).mono ?_);rintro _ w5 ⟨A5,c5,rfl,S5⟩;replace HSX:=Lib.hid (HSX.out.join S5);replace HRX:=Lib.hid (HRX.out.below S5.bel);replace HBL:=Lib.hid (below_tr HBL.out S5.bel);clear S5)
       | (go_at_call 57;(refine (spackBits_any A5 _ c5 _ v S sc' _ (HSX.out.ints 6 rfl) HRX.out HW1.out HU1.out HP1.out).mono ?_);rintro _ w6 ⟨rfl,b6⟩;replace HSX:=Lib.hid (HSX.out.below b6);replace HBL:=Lib.hid (below_tr HBL.out b6);clear b6)
       | (refine step_sepPushAt rfl _ _ (by rfl) _ (HSX.out.alloc _) 4 5 (by decide) B k c (((runs m o rows).take k).map (pck (pwOf m 1))) (pck (pwOf m 1) v) _ (0,0) rfl rfl rfl (by rfl) (heap_new _ _) (by omega) ?_;intro g9 cap w9 S9 hc9;have HC9:Hid (w9.cell? ⟨gX,0,none⟩=some (.slice SA m.sigs.length sc)∧w9.cell? ⟨gX,1,none⟩=some (.slice AA m.asgs.length ac)∧w9.cell? ⟨gX,2,none⟩=some (.slice none 0 0)∧w9.cell? ⟨gX,3,none⟩=some (.slice MA m.mems.length mc)∧w9.cell? ⟨ba,oa+k,none⟩=some (.slice S (pwOf m 1).length sc')):=Lib.hid ⟨cell_heap (k:=0) (S9.blk 3 rfl).1 rfl,cell_heap (k:=1) (S9.blk 3 rfl).1 rfl,cell_heap (k:=2) (S9.blk 3 rfl).1 rfl,cell_heap (k:=3) (S9.blk 3 rfl).1 rfl,(hc9 _).trans (HKP.out _ (below_new HBL.out _)).2.2.2.2⟩;have HS9:=Lib.hid (S9.sub (qs:=[_,_,_,_,_,_]) (List.sublist_append_left [_,_,_,_,_,_] [_]));clear S9 hc9)))
     all_goals
      go_wp2_with fail
      go_roundw
      case rel=>exact ⟨k+1,_,_,by omega,by go_num,rfl,by rw [HTK.out];exact HS9.out⟩
      case measure=>simp [intOf];omega
    ·have hkn:k=inn:=by omega
     have hdk:decide ((k:Int)<(inn:Int))=false:=by simp;omega
     clear hlt
     subst k
     have HE:Hid ((((runs m o rows).take inn).map (pck (pwOf m 1)))=srcD d p ins):=by show _=_;rw [List.take_of_length_le (by rw [runs_len,HRL.out];exact Nat.le_refl _),HSRC.out]
     have h9:=HS.out
     rw [HE.out] at h9
     have HG:=Lib.hid (h9.sub (qs:=[_]) (.cons _ (.cons _ (.cons _ (.cons _ (.cons_cons _ (.cons _ .slnil)))))))
     clear HS h9
     go_wp2_with fail
     go_ret
     exact ⟨_,_,_,rfl,HG.out⟩
end Go.Proofs.YtlinbdkbbhpdpaaGreat
