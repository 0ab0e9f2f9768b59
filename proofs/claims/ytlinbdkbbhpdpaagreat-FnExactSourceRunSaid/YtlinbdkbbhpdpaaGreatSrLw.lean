/- The state of a flat module behind a cycle, in the program (printed by mkcy4.py). All cycles of a run of a flat module, and its outputs, in the program (printed by mkcy6.py). Runs of a design, in the program (printed by mksu1.py). What the law of SourceRun needs: sizes, marks. -/
import Derived.Test.YtlinbdkbbhpdpaaGreatSrC2
import Derived.Test.YtlinbdkbbhpdpaaGreatSrEq
import Derived.Test.YtlinbdkbbhpdpaaGreatSrL1
import Derived.Test.YtlinbdkbbhpdpaaGreatSrM2
import Derived.Test.YtlinbdkbbhpdpaaGreatSrMk
import Derived.Test.YtlinbdkbbhpdpaaGreatSrR
import Derived.Test.YtlinbdkbbhpdpaaGreatSrS8
import Derived.Test.YtlinbdkbbhpdpaaGreatSrTo
namespace Go.Proofs.YtlinbdkbbhpdpaaGreat
set_option maxRecDepth 100000
open Go.RowKit

set_option maxHeartbeats 8000000 in
theorem nextState_any (m:MdT) (SA AA JA MA:Option Addr) (sn sc an ac jn jc mn mc:Nat) (vals words v:List Int) (VA WA:Option Addr) (vc wdc:Nat) (SV0:Value) (w:World) (h:MdRd w m SA AA JA MA sn sc an ac jn jc mn mc) (hf:FlatFit m) (hst:StFt m vals words) (hvf:ValFit m v) (hv:Ints w VA sn v) (hw:Ints w WA (4 * mn) words) :
  Calls Tryz.prog 168 #[.agg #[.slice SA sn sc,.slice AA an ac,.slice JA jn jc,.slice MA mn mc],.agg #[SV0,.slice WA (4 * mn) wdc],.slice VA sn vc] w fun e w'=>∃g0 WB wd2,e = .returned (.agg #[.slice (some ⟨g0,0,none⟩) sn sn,.slice WB (4 * mn) wd2])∧Sepa w w' [.cel (celI (nxtV m words v)) (.slice (some ⟨g0,0,none⟩) sn sn),.cel (celI (nxtW m words v)) (.slice WB (4 * mn) wd2)]:=by
 have HL1:=Lib.hid h.lens.1
 have HL2:=Lib.hid h.lens.2.1
 have HL4:=Lib.hid h.lens.2.2.2
 have HM:=Lib.hid h
 have HF:=Lib.hid hf
 have hs30:sn≤30:=by have h1:=hf.cnt.sg;rw [HL1.out] at h1;exact h1
 have ha30:an≤30:=by have h1:=hf.cnt.asg;rw [HL2.out] at h1;exact h1
 have hm2:mn≤2:=by have h1:=hf.cnt.mm;rw [HL4.out] at h1;exact h1
 have HST:=Lib.hid hst
 have HVF:=Lib.hid hvf
 have HV:=Lib.hid hv
 have HW:=Lib.hid hw
 clear h hf hv hst hvf hw
 have h0:=(((Sepa.refl w).pushBlk #[.slice SA sn sc,.slice AA an ac,.slice JA jn jc,.slice MA mn mc] 108).pushBlk #[SV0,.slice WA (4 * mn) wdc] 158).pushBlk #[.slice none 0 0,.slice none 0 0] 158
 simp only [World.size_alloc] at h0
 go_enter Tryz.func168,Tryz.ntmps168
 go_upto_region 1 with fail
 obtain ⟨gX,hgX⟩:∃g,w.heap.size=g:=⟨_,rfl⟩
 obtain ⟨gT,hgT⟩:∃g,w.heap.size+1=g:=⟨_,rfl⟩
 obtain ⟨gR,hgR⟩:∃g,w.heap.size+1+1=g:=⟨_,rfl⟩
 rw [hgR] at h0
 (try rw [hgR])
 rw [hgT] at h0
 (try rw [hgT])
 rw [hgX] at h0
 (try rw [hgX])
 clear hgX hgR hgT
 have HN0:=Lib.hid h0.holeQ.holeQ
 clear h0
 generalize ((w.alloc (.cells #[.slice SA sn sc,.slice AA an ac,.slice JA jn jc,.slice MA mn mc] 108)).alloc (.cells #[SV0,.slice WA (4 * mn) wdc] 158)).alloc (.cells #[.slice none 0 0,.slice none 0 0] 158)=W9 at *
 have x0:=cell_heap (k:=0) (HN0.out.blk 2 rfl).1 rfl
 have lx:=heap_lt0 (HN0.out.blk 2 rfl).1
 have t1:=cell_heap (k:=1) (HN0.out.blk 3 rfl).1 rfl
 have lt:=heap_lt0 (HN0.out.blk 3 rfl).1
 have hmk:=fun W=>run_make_ints sn (by omega) W
 have HKP:Hid (∀(v:World) (ps:List Pc),Sepa w v ps→ps[2]?=some (.blk gX #[.slice SA sn sc,.slice AA an ac,.slice JA jn jc,.slice MA mn mc] 108)→ps[3]?=some (.blk gT #[SV0,.slice WA (4 * mn) wdc] 158)→(v.cell? ⟨gX,0,none⟩=some (.slice SA sn sc)∧v.cell? ⟨gT,1,none⟩=some (.slice WA (4 * mn) wdc))):=fun v ps h h2 h3=>⟨cell_heap (k:=0) (h.blk 2 h2).1 rfl,cell_heap (k:=1) (h.blk 3 h3).1 rfl⟩
 have HSX:=Lib.hid HN0.out.drew
 go_cut [7] (fun p w'=>∃gS g0 WB wd2,p = .pointer (some ⟨gS,0,none⟩)∧Sepa w w' [.cel (celI (List.replicate sn 0)) (.slice (some ⟨g0,0,none⟩) sn sn),.cel (celI (words)) (.slice WB (4 * mn) wd2),.blk gX #[.slice SA sn sc,.slice AA an ac,.slice JA jn jc,.slice MA mn mc] 108,.blk gT #[SV0,.slice WA (4 * mn) wdc] 158,wsB gR (.slice none 0 0) (.slice none 0 0),wsB gS (.slice (some ⟨g0,0,none⟩) sn sn) (.slice WB (4 * mn) wd2)])
 case first =>
  go_region_held3 (fun w'=>w'.cell? ⟨gX,0,none⟩=some (.slice SA sn sc)∧w'.cell? ⟨gT,1,none⟩=some (.slice WA (4 * mn) wdc))
   (first|with_reducible exact HKP.out _ _ (((HSX.out.put 5 rfl 0 _).put 5 rfl 1 _).fillZ 0 rfl sn (by omega)) rfl rfl|with_reducible exact HKP.out _ _ (HSX.out.zb 0 rfl sn (by omega) _ _) rfl rfl|with_reducible exact HKP.out _ _ (HSX.out.bz 0 sn (by omega) _ _ rfl) rfl rfl|with_reducible exact HKP.out _ _ (HSX.out.pushBlk _ _) rfl rfl|with_reducible exact HKP.out _ _ (((HSX.out.fillZ 0 rfl sn (by omega)).put 5 rfl 0 _).put 5 rfl 1 _) rfl rfl|with_reducible exact HKP.out _ _ HSX.out rfl rfl|with_reducible exact HKP.out _ _ (HN0.out.fillZ 0 rfl sn (by omega)).drew rfl rfl|with_reducible exact HKP.out _ _ (HN0.out.pushBlk #[.slice none 0 0,.slice none 0 0] 158).drew rfl rfl|with_reducible exact HKP.out _ _ (HN0.out.zb 0 rfl sn (by omega) #[.slice none 0 0,.slice none 0 0] 158).drew rfl rfl|with_reducible exact HKP.out _ _ (HN0.out.bz 0 sn (by omega) #[.slice none 0 0,.slice none 0 0] 158 rfl).drew rfl rfl|with_reducible exact HKP.out _ _ (HSX.out.fillZ 0 rfl sn (by omega)) rfl rfl|with_reducible exact HKP.out _ _ (HSX.out.pushBlk #[.slice none 0 0,.slice none 0 0] 158) rfl rfl|with_reducible exact HKP.out _ _ (HSX.out.zb 0 rfl sn (by omega) #[.slice none 0 0,.slice none 0 0] 158) rfl rfl|with_reducible exact HKP.out _ _ (HSX.out.bz 0 sn (by omega) #[.slice none 0 0,.slice none 0 0] 158 rfl) rfl rfl|exact HKP.out _ _ (HSX.out.alloc _) rfl rfl|exact HKP.out _ _ ((HSX.out.put 5 rfl 0 _).put 5 rfl 1 _) rfl rfl)
   ((first|(go_at_call 144;(first|with_reducible refine synQ HSX.out ?_|with_reducible refine synQ (HN0.out.fillZ 0 rfl sn (by omega)).drew ?_|with_reducible refine synQ (HN0.out.pushBlk #[.slice none 0 0,.slice none 0 0] 158).drew ?_|with_reducible refine synQ (HN0.out.zb 0 rfl sn (by omega) #[.slice none 0 0,.slice none 0 0] 158).drew ?_|with_reducible refine synQ (HN0.out.bz 0 sn (by omega) #[.slice none 0 0,.slice none 0 0] 158 rfl).drew ?_);intro hS;replace HSX:=Lib.hid hS;clear hS;(refine (copyInts_any WA (4 * mn) wdc words _ (HW.out.below HSX.out.bel) (by omega)).mono ?_);rintro _ v6 ⟨WB,wd2,rfl,o6,b6⟩;replace HSX:=Lib.hid (HSX.out.fillOwnQ 1 rfl b6 o6);(try (have hX:=HSX.out;simp only [World.size_alloc] at hX;replace HSX:=Lib.hid hX;clear hX));(try obtain ⟨r0,r1,rf,lr⟩:=box2Q (HSX.out.blk 5 rfl).1);clear o6 b6)))
  all_goals
   go_wp2_with fail
   go_meet
   first
    | exact ⟨_,_,_,_,rfl,(HSX.out.put 5 rfl 0 _).put 5 rfl 1 _⟩
    | exact ⟨_,_,_,_,rfl,HSX.out.pushBlk _ _⟩
    | exact ⟨_,_,_,_,rfl,((HSX.out.fillZ 0 rfl sn (by omega)).put 5 rfl 0 _).put 5 rfl 1 _⟩
    | exact ⟨_,_,_,_,rfl,((HSX.out.put 5 rfl 0 _).put 5 rfl 1 _).fillZs 0 rfl sn (by omega) (by simp)⟩
    | exact ⟨_,_,_,_,rfl,HSX.out.zb 0 rfl sn (by omega) _ _⟩
    | exact ⟨_,_,_,_,rfl,HSX.out.bz 0 sn (by omega) _ _ rfl⟩
 obtain ⟨gS,g0,WB,wd2,rfl,hS1⟩:=hcut
 have HS1:=Lib.hid hS1
 have HZ0:Hid (regTo m v 0=List.replicate sn 0):=by show _=_;rw [←HL1.out];rfl
 clear hS1 HSX HN0 HKP x0 lx t1 lt hmk
 have x1:=cell_heap (k:=1) (HS1.out.blk 2 rfl).1 rfl
 have lx:=heap_lt0 (HS1.out.blk 2 rfl).1
 go_wp2_with fail
 clear x1 lx
 go_loopw [24] (fun i wr=>∃k:Nat,k≤an∧i = .int .i64 (k:Int)∧Sepa w wr [.cel (celI (regTo m v k)) (.slice (some ⟨g0,0,none⟩) sn sn),.cel (celI (words)) (.slice WB (4 * mn) wd2),.blk gX #[.slice SA sn sc,.slice AA an ac,.slice JA jn jc,.slice MA mn mc] 108,.blk gT #[SV0,.slice WA (4 * mn) wdc] 158,wsB gR (.slice none 0 0) (.slice none 0 0),wsB gS (.slice (some ⟨g0,0,none⟩) sn sn) (.slice WB (4 * mn) wd2)]) (fun i _=>an - (intOf i).toNat)
 case atStart=>exact ⟨0,by omega,rfl,by rw [HZ0.out];exact HS1.out⟩
 case round =>
  obtain ⟨k,hkk,rfl,hs⟩:=hrel
  have HS:=Lib.hid hs
  clear hs
  by_cases hlt:k<an
  ·have hdk:decide ((k:Int)<(an:Int))=true:=by simp;omega
   have i0:(0:Int)≤(k:Int):=by omega
   have i1:(k:Int)<(an:Int):=by omega
   have hai:k<m.asgs.length:=by rw [HL2.out];exact hlt
   obtain ⟨ba,oa,QA,qn,qc,hAA,hba,c0,c1,r0⟩:=HM.out.asg.asE (k:=k) hai
   subst hAA
   rw [show m.asgs[k]?.getD AsT.zero=asK m k from rfl] at c0 r0
   rw [←HS.out.bel.cell (p:=⟨ba,oa+k * 2,none⟩) hba] at c0
   rw [←HS.out.bel.cell (p:=⟨ba,oa+k * 2+1,none⟩) hba] at c1
   have lba:=below_lt HS.out.bel hba
   have htg:=(HF.out.asf hai).1.1
   obtain ⟨T,hT⟩:∃T:Nat,(asK m k).target=(T:Int):=⟨(asK m k).target.toNat,by have:=htg.1;omega⟩
   have hT2:=htg.2
   rw [hT,HL1.out] at hT2
   have HTK:Hid (regTo m v (k+1)=if (m.sigs[T]?.getD SgT.zero).kind=3 then (regTo m v k).set T (evA m v (asK m k)) else regTo m v k):=by show _=_;rw [regTo,hT,Int.toNat_natCast];unfold sgI sgK;rw [Int.toNat_natCast]
   rw [hT] at c0
   obtain ⟨bs,os,hSA,hbs,z0,z1,z2⟩:=HM.out.sg.sgE (k:=T) (by rw [HL1.out];omega)
   subst hSA
   have z0:=(HS.out.bel.cell (p:=⟨bs,os+T * 3,none⟩) hbs).trans z0
   have z1:=(HS.out.bel.cell (p:=⟨bs,os+T * 3+1,none⟩) hbs).trans z1
   have lbs:=below_lt HS.out.bel hbs
   have HEX:=Lib.hid (fun (u:World) (hb:Below w.heap.size w u)=>exprAt_asg HF.out hai hT QA qn qc v VA sn vc u HL1.out (r0.below hb) (HV.out.below hb))
   generalize evA m v (asK m k)=ev at *
   generalize (m.sigs[T]?.getD SgT.zero).width=wd at *
   generalize (m.sigs[T]?.getD SgT.zero).kind=kd at *
   generalize regTo m v k=rk at *
   have t0:(0:Int)≤(T:Int):=by omega
   clear hba hbs z2 htg hai hT r0
   have HS5:=Lib.hid (HS.out.alloc (.cells #[.int .i64 (T:Int),.slice QA qn qc] 196))
   rw [←(below_new (Below.refl wr.heap.size wr) (.cells #[.int .i64 (T:Int),.slice QA qn qc] 196)).cell lbs] at z0 z1
   have lbs5:=below_lt (below_new (Below.refl wr.heap.size wr) (.cells #[.int .i64 (T:Int),.slice QA qn qc] 196)) lbs
   have hy:=heap_new wr (.cells #[.int .i64 (T:Int),.slice QA qn qc] 196)
   have HY:=Lib.hid hy
   clear hy
   go_upto_region 5 with fail
   generalize wr.alloc (.cells #[.int .i64 (T:Int),.slice QA qn qc] 196)=W5 at *
   clear c0 c1 lba lbs
   have y0:=cell_heap (k:=0) HY.out rfl
   have y1:=cell_heap (k:=1) HY.out rfl
   have ly:=heap_lt0 HY.out
   obtain ⟨gY,hgY⟩:∃g,wr.heap.size=g:=⟨_,rfl⟩
   rw [hgY] at y0 y1 ly
   (try rw [hgY])
   clear hgY HY
   have x0:=cell_heap (k:=0) (HS5.out.blk 2 rfl).1 rfl
   have lx:=heap_lt0 (HS5.out.blk 2 rfl).1
   by_cases h3:kd=3
   ·have d3:(kd==3)=true:=by simp [h3]
    rw [if_pos h3] at HTK
    clear h3
    have s0:=cell_heap (k:=0) (HS5.out.blk 5 rfl).1 rfl
    have ls:=heap_lt0 (HS5.out.blk 5 rfl).1
    go_upto_region 6 with fail
    have HKP:=Lib.hid (fun (v:World) (hv:Below W5.heap.size W5 v)=>(⟨(hv.cell ls).trans s0,(hv.cell ly).trans y0,(hv.cell ly).trans y1,(hv.cell lx).trans x0,(hv.cell lbs5).trans z1⟩:v.cell? ⟨gS,0,none⟩=some (.slice (some ⟨g0,0,none⟩) sn sn)∧v.cell? ⟨gY,0,none⟩=some (.int .i64 (T:Int))∧v.cell? ⟨gY,1,none⟩=some (.slice QA qn qc)∧v.cell? ⟨gX,0,none⟩=some (.slice (some ⟨bs,os,none⟩) sn sc)∧v.cell? ⟨bs,os+T * 3+1,none⟩=some (.int .i64 wd)))
    have hD0:=(Below.refl W5.heap.size W5).drew
    have HT:Hid (Sepa w W5.drew [.cel (celI (rk)) (.slice (some ⟨g0,0,none⟩) sn sn),.cel (celI (words)) (.slice WB (4 * mn) wd2),.blk gX #[.slice (some ⟨bs,os,none⟩) sn sc,.slice (some ⟨ba,oa,none⟩) an ac,.slice JA jn jc,.slice MA mn mc] 108,.blk gT #[SV0,.slice WA (4 * mn) wdc] 158,wsB gR (.slice none 0 0) (.slice none 0 0),wsB gS (.slice (some ⟨g0,0,none⟩) sn sn) (.slice WB (4 * mn) wd2)]):=Lib.hid HS5.out.drew
    refine wp_region_noPanic ?_
    refine wp_region_U 17 [17] (fun w'=>w'.cell? ⟨gS,0,none⟩=some (.slice (some ⟨g0,0,none⟩) sn sn)∧w'.cell? ⟨gY,0,none⟩=some (.int .i64 (T:Int))∧w'.cell? ⟨gY,1,none⟩=some (.slice QA qn qc)∧w'.cell? ⟨gX,0,none⟩=some (.slice (some ⟨bs,os,none⟩) sn sc)∧w'.cell? ⟨bs,os+T * 3+1,none⟩=some (.int .i64 wd)) (HKP.out _ hD0) (fun hT hD=>?_)
    refine onU hT 0 opA hD ?_
    refine onU hT 1 (opB opA) hD ?_
    refine onU hT 2 (opB (opB opA)) hD ?_
    refine onU hT 3 (opB (opB (opB opA))) hD ?_
    refine onU hT 4 (opC opA) hD ?_
    refine onU hT 5 (opC (opB opA)) hD ?_
    refine onU hT 6 (opC (opB (opB opA))) hD ?_
    refine onU hT 7 (opC (opB (opB (opB opA)))) hD ?_
    refine onU hT 8 (opC (opC opA)) hD ?_
    refine onU hT 9 (opC (opC (opB opA))) hD ?_
    refine onU hT 10 (opC (opC (opB (opB opA)))) hD ?_
    refine onU hT 11 (opC (opC (opB (opB (opB opA))))) hD ?_
    refine onU hT 12 (opC (opC (opC opA))) hD ?_
    refine onU hT 13 (opC (opC (opC (opB opA)))) hD ?_
    refine callU hT 14 (opC (opC (opC (opB (opB opA))))) (fun K hK=>?_)
    go_simp
    go_at_call 213
    refine (HEX.out _ HT.out.bel).mono ?_
    rintro _ w7 ⟨rfl,b7⟩
    have HT7:=Lib.hid (HT.out.below b7)
    refine hK.out _ _ (HKP.out _ (below_tr hD0 b7)) (fun hD=>?_)
    clear hK K
    try simp only [Act.put,List.setIfInBounds_toArray,List.set_cons_zero,List.set_cons_succ]
    refine onU hT 15 (opC (opC (opC (opB (opB (opB opA)))))) hD ?_
    refine onU hT 16 (opD opA) hD ?_
    refine freeU hT 17 (opD (opB opA)) ?_
    obtain ⟨g9,hg7,_,q8,c8,f8,hu⟩:=HT7.out.setI 0 (i:=T) rfl (by omega)
    injection hg7 with hg7
    injection hg7 with hg7
    subst hg7
    refine tailU hT 18 (opD (opB (opB opA))) ?_
    refine lastU hT 19 (opD (opB (opB (opB opA)))) ?_
    go_wp2_with fail
    refine NoPanic.normal ?_
    have HS9:=Lib.hid (hu ev)
    go_wp2_with fail
    go_roundw
    case rel=>exact ⟨k+1,by omega,by go_num,by rw [HTK.out];exact HS9.out⟩
    case measure=>simp [intOf];omega
   ·have d3:(kd==3)=false:=by simp [h3]
    rw [if_neg h3] at HTK
    clear h3
    go_wp2_with fail
    go_roundw
    case rel=>exact ⟨k+1,by omega,by go_num,by rw [HTK.out];exact HS5.out⟩
    case measure=>simp [intOf];omega
  ·have hkn:k=an:=by omega
   have hdk:decide ((k:Int)<(an:Int))=false:=by simp;omega
   clear hlt
   subst k
   have HS2:Hid (Sepa w wr [.cel (celI (memV m words v 0)) (.slice (some ⟨g0,0,none⟩) sn sn),.cel (celI (memWd m words v 0)) (.slice WB (4 * mn) wd2),.blk gX #[.slice SA sn sc,.slice AA an ac,.slice JA jn jc,.slice MA mn mc] 108,.blk gT #[SV0,.slice WA (4 * mn) wdc] 158,wsB gR (.slice none 0 0) (.slice none 0 0),wsB gS (.slice (some ⟨g0,0,none⟩) sn sn) (.slice WB (4 * mn) wd2)]):=by have h1:=HS.out;rw [show regTo m v an=memV m words v 0 from by rw [←HL2.out];rfl] at h1;exact h1
   clear HS
   have x3:=cell_heap (k:=3) (HS2.out.blk 2 rfl).1 rfl
   have lx:=heap_lt0 (HS2.out.blk 2 rfl).1
   go_wp2_with fail
   clear x3 lx
   go_loopw [59] (fun i wr=>∃k:Nat,k≤mn∧i = .int .i64 (k:Int)∧Sepa w wr [.cel (celI (memV m words v k)) (.slice (some ⟨g0,0,none⟩) sn sn),.cel (celI (memWd m words v k)) (.slice WB (4 * mn) wd2),.blk gX #[.slice SA sn sc,.slice AA an ac,.slice JA jn jc,.slice MA mn mc] 108,.blk gT #[SV0,.slice WA (4 * mn) wdc] 158,wsB gR (.slice none 0 0) (.slice none 0 0),wsB gS (.slice (some ⟨g0,0,none⟩) sn sn) (.slice WB (4 * mn) wd2)]) (fun i _=>mn - (intOf i).toNat)
   case atStart=>exact ⟨0,by omega,rfl,HS2.out⟩
   case round =>
    obtain ⟨k,hkk,rfl,hs⟩:=hrel
    have HS:=Lib.hid hs
    clear hs
    by_cases hlt:k<mn
    ·have hdk:decide ((k:Int)<(mn:Int))=true:=by simp;omega
     have i0:(0:Int)≤(k:Int):=by omega
     have i1:(k:Int)<(mn:Int):=by omega
     have hkl:k<m.mems.length:=by rw [HL4.out];exact hlt
     obtain ⟨bm,om,hMA,hbm,c0,c1,c2,c3⟩:=HM.out.mm.mmE (k:=k) hkl
     subst hMA
     rw [←HS.out.bel.cell (p:=⟨bm,om+k * 4,none⟩) hbm] at c0
     rw [←HS.out.bel.cell (p:=⟨bm,om+k * 4+1,none⟩) hbm] at c1
     rw [←HS.out.bel.cell (p:=⟨bm,om+k * 4+2,none⟩) hbm] at c2
     rw [←HS.out.bel.cell (p:=⟨bm,om+k * 4+3,none⟩) hbm] at c3
     have lbm:=below_lt HS.out.bel hbm
     have hmf:=HF.out.mmf hkl
     have hwa:=wdAt_lt HF.out HVF.out hkl
     rw [HL4.out] at hwa
     have HMV:Hid (memV m words v (k+1)=(memV m words v k).set (mmK m k).out.toNat (words[wdAt m v k]?.getD 0)):=rfl
     have HMW:Hid (memWd m words v (k+1)=if atI v (mmK m k).write=1 then (memWd m words v k).set (wdAt m v k) (atI v (mmK m k).data) else memWd m words v k):=rfl
     have hai:=addr_in HF.out HVF.out hkl
     have HWE:Hid (wdAt m v k=4 * k+(atI v (mmK m k).addr).toNat):=rfl
     rw [show m.mems[k]?.getD MmT.zero=mmK m k from rfl] at c0 c1 c2 c3
     generalize wdAt m v k=P at *
     generalize mmK m k=q at *
     obtain ⟨ma,md,mwr,mo⟩:=q
     simp only at c0 c1 c2 c3 HMV HMW hai HWE
     obtain ⟨hA,hD,hW,hO,-⟩:=hmf
     simp only at hA hD hW hO
     obtain ⟨A,rfl⟩:∃A:Nat,ma=(A:Int):=⟨ma.toNat,by have:=hA.1;omega⟩
     obtain ⟨D,rfl⟩:∃A:Nat,md=(A:Int):=⟨md.toNat,by have:=hD.1;omega⟩
     obtain ⟨X,rfl⟩:∃A:Nat,mwr=(A:Int):=⟨mwr.toNat,by have:=hW.1;omega⟩
     obtain ⟨O,rfl⟩:∃A:Nat,mo=(A:Int):=⟨mo.toNat,by have:=hO.1;omega⟩
     have hA2:=hA.2
     have hD2:=hD.2
     have hW2:=hW.2
     have hO2:=hO.2
     rw [HL1.out] at hA2 hD2 hW2 hO2
     rw [Int.toNat_natCast] at HMV
     unfold atI at HMW hai HWE
     simp only [Int.toNat_natCast] at HMW hai HWE
     obtain ⟨bv,ov,hVA,hbv,hcv⟩:=HV.out.2 (by omega)
     subst hVA
     have HVC:=Lib.hid (fun (u:World) (hb:Below w.heap.size w u)=>(⟨(hb.cell (p:=⟨bv,ov+A,none⟩) hbv).trans (hcv A (by omega)),(hb.cell (p:=⟨bv,ov+D,none⟩) hbv).trans (hcv D (by omega)),(hb.cell (p:=⟨bv,ov+X,none⟩) hbv).trans (hcv X (by omega)),below_lt hb hbv⟩:u.cell? ⟨bv,ov+A,none⟩=some (.int .i64 (v[A]?.getD 0))∧u.cell? ⟨bv,ov+D,none⟩=some (.int .i64 (v[D]?.getD 0))∧u.cell? ⟨bv,ov+X,none⟩=some (.int .i64 (v[X]?.getD 0))∧bv<u.heap.size))
     obtain ⟨bw,ow,hWA,hbw,hcw⟩:=HW.out.2 (by omega)
     subst hWA
     have HWC:=Lib.hid (fun (u:World) (hb:Below w.heap.size w u)=>(⟨(hb.cell (p:=⟨bw,ow+P,none⟩) hbw).trans (hcw P hwa.1),below_lt hb hbw⟩:u.cell? ⟨bw,ow+P,none⟩=some (.int .i64 (words[P]?.getD 0))∧bw<u.heap.size))
     generalize words[P]?.getD 0=xw at *
     generalize v[A]?.getD 0=xa at *
     generalize v[D]?.getD 0=xd at *
     generalize v[X]?.getD 0=xx at *
     obtain ⟨a4,rfl⟩:∃A:Nat,xa=(A:Int):=⟨xa.toNat,by omega⟩
     have hPE:=HWE.out
     rw [Int.toNat_natCast] at hPE
     have HPE:Hid (4 * (k:Int)+(a4:Int)=(P:Int)):=by show _=_;omega
     have hP:=hwa.1
     generalize memV m words v k=vk at *
     generalize memWd m words v k=wk at *
     clear hkl hbm hcv hcw hbv hbw hA hD hW hO HWE hwa hPE
     have A0:(0:Int)≤(A:Int):=by omega
     have D0:(0:Int)≤(D:Int):=by omega
     have X0:(0:Int)≤(X:Int):=by omega
     have O0:(0:Int)≤(O:Int):=by omega
     have P0:(0:Int)≤(P:Int):=by omega
     have P1:(P:Int)<4 * (mn:Int):=by omega
     have HS5:=Lib.hid (HS.out.pushBlk #[.int .i64 (A:Int),.int .i64 (D:Int),.int .i64 (X:Int),.int .i64 (O:Int)] 200)
     go_upto_region 11 with fail
     obtain ⟨gY,hgY⟩:∃g,wr.heap.size=g:=⟨_,rfl⟩
     rw [hgY] at HS5
     (try rw [hgY])
     generalize wr.alloc (.cells #[.int .i64 (A:Int),.int .i64 (D:Int),.int .i64 (X:Int),.int .i64 (O:Int)] 200)=W5 at *
     clear c0 c1 c2 c3 lbm hgY
     obtain ⟨vA,-,-,lbv⟩:=HVC.out _ HS5.out.bel
     have y0:=cell_heap (k:=0) (HS5.out.blk 6 rfl).1 rfl
     have y3:=cell_heap (k:=3) (HS5.out.blk 6 rfl).1 rfl
     have ly:=heap_lt0 (HS5.out.blk 6 rfl).1
     go_upto_region 12 with fail
     rw [HPE.out]
     clear vA lbv
     obtain ⟨wP,lbw⟩:=HWC.out _ HS5.out.bel
     have s0:=cell_heap (k:=0) (HS5.out.blk 5 rfl).1 rfl
     have t1:=cell_heap (k:=1) (HS5.out.blk 3 rfl).1 rfl
     have HT:Hid (Sepa w W5.drew [.cel (celI (vk)) (.slice (some ⟨g0,0,none⟩) sn sn),.cel (celI (wk)) (.slice WB (4 * mn) wd2),.blk gX #[.slice SA sn sc,.slice AA an ac,.slice JA jn jc,.slice (some ⟨bm,om,none⟩) mn mc] 108,.blk gT #[SV0,.slice (some ⟨bw,ow,none⟩) (4 * mn) wdc] 158,wsB gR (.slice none 0 0) (.slice none 0 0),wsB gS (.slice (some ⟨g0,0,none⟩) sn sn) (.slice WB (4 * mn) wd2),.blk gY #[.int .i64 (A:Int),.int .i64 (D:Int),.int .i64 (X:Int),.int .i64 (O:Int)] 200]):=Lib.hid HS5.out.drew
     obtain ⟨g9,hg7,_,q8,c8,f8,hu⟩:=HT.out.setI 0 (i:=O) rfl (by omega)
     injection hg7 with hg7
     injection hg7 with hg7
     subst hg7
     refine wp_region_noPanic ?_
     refine wp_region_T 10 (fun w'=>w'.cell? ⟨gS,0,none⟩=some (.slice (some ⟨g0,0,none⟩) sn sn)∧w'.cell? ⟨gY,3,none⟩=some (.int .i64 (O:Int))∧w'.cell? ⟨gT,1,none⟩=some (.slice (some ⟨bw,ow,none⟩) (4 * mn) wdc)∧w'.cell? ⟨bw,ow+P,none⟩=some (.int .i64 xw)) (⟨s0,y3,t1,wP⟩) (fun hT hD=>?_)
     refine onT hT 0 opA hD ?_
     refine onT hT 1 (opB opA) hD ?_
     refine onT hT 2 (opB (opB opA)) hD ?_
     refine onT hT 3 (opB (opB (opB opA))) hD ?_
     refine onT hT 4 (opC opA) hD ?_
     refine onT hT 5 (opC (opB opA)) hD ?_
     refine onT hT 6 (opC (opB (opB opA))) hD ?_
     refine onT hT 7 (opC (opB (opB (opB opA)))) hD ?_
     refine onT hT 8 (opC (opC opA)) hD ?_
     refine onT hT 9 (opC (opC (opB opA))) hD ?_
     refine lastT hT 10 (opC (opC (opB (opB opA)))) ?_
     go_wp2_with fail
     refine NoPanic.normal ?_
     have HS6:=Lib.hid (show Sepa w (W5.setCell ⟨g0,O,none⟩ (.int .i64 xw)).drew _ from hu xw)
     clear y0 y3 ly s0 t1 q8 c8 f8 hu wP lbw
     generalize (W5.setCell ⟨g0,O,none⟩ (.int .i64 xw)).drew=W6 at *
     obtain ⟨-,vD,vX,lbv⟩:=HVC.out _ HS6.out.bel
     have y1:=cell_heap (k:=1) (HS6.out.blk 6 rfl).1 rfl
     have y2:=cell_heap (k:=2) (HS6.out.blk 6 rfl).1 rfl
     have ly:=heap_lt0 (HS6.out.blk 6 rfl).1
     by_cases h1:xx=1
     ·have d1:(xx==1)=true:=by simp [h1]
      rw [if_pos h1] at HMW
      clear h1
      go_upto_region 14 with fail
      obtain ⟨g9,hg7,_,q8,c8,f8,hu⟩:=(HS6.out.drew).setI 1 (i:=P) rfl (by omega)
      subst hg7
      have s1:=cell_heap (k:=1) (HS6.out.blk 5 rfl).1 rfl
      refine wp_region_noPanic ?_
      refine wp_region_T 9 (fun w'=>w'.cell? ⟨gS,1,none⟩=some (.slice (some ⟨g9,0,none⟩) (4 * mn) wd2)∧w'.cell? ⟨gY,1,none⟩=some (.int .i64 (D:Int))∧w'.cell? ⟨bv,ov+D,none⟩=some (.int .i64 xd)) (⟨s1,y1,vD⟩) (fun hT hD=>?_)
      refine onT hT 0 opA hD ?_
      refine onT hT 1 (opB opA) hD ?_
      refine onT hT 2 (opB (opB opA)) hD ?_
      refine onT hT 3 (opB (opB (opB opA))) hD ?_
      refine onT hT 4 (opC opA) hD ?_
      refine onT hT 5 (opC (opB opA)) hD ?_
      refine onT hT 6 (opC (opB (opB opA))) hD ?_
      refine onT hT 7 (opC (opB (opB (opB opA)))) hD ?_
      refine onT hT 8 (opC (opC opA)) hD ?_
      refine lastT hT 9 (opC (opC (opB opA))) ?_
      go_wp2_with fail
      refine NoPanic.normal ?_
      have HS9:=Lib.hid ((hu xd).sub (qs:=[_,_,_,_,_,_]) (List.sublist_append_left [_,_,_,_,_,_] [_]))
      go_wp2_with fail
      go_roundw
      case rel=>exact ⟨k+1,by omega,by go_num,by rw [HMV.out,HMW.out];exact HS9.out⟩
      case measure=>simp [intOf];omega
     ·have d1:(xx==1)=false:=by simp [h1]
      rw [if_neg h1] at HMW
      have HS9:=Lib.hid (HS6.out.sub (qs:=[_,_,_,_,_,_]) (List.sublist_append_left [_,_,_,_,_,_] [_]))
      clear h1
      go_wp2_with fail
      go_roundw
      case rel=>exact ⟨k+1,by omega,by go_num,by rw [HMV.out,HMW.out];exact HS9.out⟩
      case measure=>simp [intOf];omega
    ·have hkn:k=mn:=by omega
     have hdk:decide ((k:Int)<(mn:Int))=false:=by simp;omega
     clear hlt
     subst k
     have HE0:Hid (memV m words v mn=nxtV m words v):=by show _=_;unfold nxtV;rw [HL4.out]
     have HE1:Hid (memWd m words v mn=nxtW m words v):=by show _=_;unfold nxtW;rw [HL4.out]
     have h9:=HS.out
     rw [HE0.out,HE1.out] at h9
     clear HS
     have s0:=cell_heap (k:=0) (h9.blk 5 rfl).1 rfl
     have s1:=cell_heap (k:=1) (h9.blk 5 rfl).1 rfl
     have ls:=heap_lt0 (h9.blk 5 rfl).1
     have e0:=cell_heap (k:=0) (h9.blk 4 rfl).1 rfl
     have e1:=cell_heap (k:=1) (h9.blk 4 rfl).1 rfl
     have e2:=fun k=>frozen_heap (h9.blk 4 rfl).1 k
     have le:=heap_lt0 (h9.blk 4 rfl).1
     have HP:=Lib.hid ((h9.put 4 rfl 0 (.slice (some ⟨g0,0,none⟩) sn sn)).put 4 rfl 1 (.slice WB (4 * mn) wd2))
     clear h9
     go_wp2_with fail
     generalize (wr.setCell ⟨gR,0,none⟩ (.slice (some ⟨g0,0,none⟩) sn sn)).setCell ⟨gR,1,none⟩ (.slice WB (4 * mn) wd2)=WF at *
     have hb:WF.heap[gR]?=some (.cells #[.slice (some ⟨g0,0,none⟩) sn sn,.slice WB (4 * mn) wd2] 158 (0,0)):=(HP.out.blk 4 rfl).1
     exact bodyPost_ret (v := .agg #[.slice (some ⟨g0,0,none⟩) sn sn,.slice WB (4 * mn) wd2]) (results_cell1 Tryz.results168 rfl hb Tryz.underlying158 (by kernel_rfl)) rfl ⟨g0,WB,wd2,rfl,HP.out.sub (qs:=[_,_]) (List.sublist_append_left [_,_] [_,_,_,_])⟩
end Go.Proofs.YtlinbdkbbhpdpaaGreat

namespace Go.Proofs.YtlinbdkbbhpdpaaGreat
set_option maxRecDepth 100000
open Go.RowKit

set_option maxHeartbeats 8000000 in
theorem flatCycles_yes (m:MdT) (SA AA JA MA:Option Addr) (sn sc an ac jn jc mn mc:Nat) (o:List Nat) (rows:List (List Int)) (RA:Option Addr) (rn rc:Nat) (w:World) (h:MdRd w m SA AA JA MA sn sc an ac jn jc mn mc) (hf:FlatFit m) (hoe:evalOrd m=some o) (hr:RdC w w.heap.size (celR rows) (.slice RA rn rc)) (h16:rn≤16) (hlen:∀k,k<rn→(rows[k]?.getD []).length=(pwOf m 0).length) :
  Calls Tryz.prog 111 #[.agg #[.slice SA sn sc,.slice AA an ac,.slice JA jn jc,.slice MA mn mc],.slice RA rn rc] w fun e w'=>∃A c,e = .returned (.tuple #[.slice A rn c,.bool true])∧Sepa w w' [.cel (celR ((List.range rn).map (cycV m o rows))) (.slice A rn c)]:=by
 have HL1:=Lib.hid h.lens.1
 have HL2:=Lib.hid h.lens.2.1
 have HL4:=Lib.hid h.lens.2.2.2
 have HM:=Lib.hid h
 have HF:=Lib.hid hf
 have hs30:sn≤30:=by have h1:=hf.cnt.sg;rw [HL1.out] at h1;exact h1
 have ha30:an≤30:=by have h1:=hf.cnt.asg;rw [HL2.out] at h1;exact h1
 have hm2:mn≤2:=by have h1:=hf.cnt.mm;rw [HL4.out] at h1;exact h1
 have HRR:=Lib.hid hr
 have HLE:=Lib.hid hlen
 have HOE:=Lib.hid hoe
 obtain ⟨on,hon⟩:∃n,o.length=n:=⟨_,rfl⟩
 have HNO:=Lib.hid hon
 have hon30:=evalOrd_len hf hoe
 rw [hon] at hon30
 have HRN:Hid (rows.length=rn):=hr.rowsRN
 have HT:=Lib.hid (tb_true hf)
 obtain ⟨pw,hpw⟩:∃p,(pwOf m 0).length=p:=⟨_,rfl⟩
 have HPW:=Lib.hid hpw
 have d16:decide ((16:Int)<(rn:Int))=false:=decide_eq_false (by omega)
 clear hpw h hf hr hlen hoe hon
 have h0:=(Sepa.refl w).pushBlk #[.slice SA sn sc,.slice AA an ac,.slice JA jn jc,.slice MA mn mc] 108
 go_enter Tryz.func111,Tryz.ntmps111
 go_upto_region 1 with fail
 obtain ⟨gX,hgX⟩:∃g,w.heap.size=g:=⟨_,rfl⟩
 rw [hgX] at h0
 (try rw [hgX])
 clear hgX
 have HS0:=Lib.hid h0
 clear h0
 generalize w.alloc (.cells #[.slice SA sn sc,.slice AA an ac,.slice JA jn jc,.slice MA mn mc] 108)=W9 at *
 have x0:=cell_heap (k:=0) (HS0.out.blk 0 rfl).1 rfl
 have x1:=cell_heap (k:=1) (HS0.out.blk 0 rfl).1 rfl
 have x2:=cell_heap (k:=2) (HS0.out.blk 0 rfl).1 rfl
 have x3:=cell_heap (k:=3) (HS0.out.blk 0 rfl).1 rfl
 have lx:=heap_lt0 (HS0.out.blk 0 rfl).1
 go_wp2_with fail
 refine (flatOk_any m SA AA JA MA sn sc an ac jn jc mn mc _ (HM.out.below HS0.out.bel)).mono ?_
 rw [HT.out]
 rintro _ w1 ⟨rfl,b1⟩
 replace HS0:=Lib.hid (HS0.out.below b1)
 clear b1 x0 x1 x2 x3 lx
 have x0:=cell_heap (k:=0) (HS0.out.blk 0 rfl).1 rfl
 have x1:=cell_heap (k:=1) (HS0.out.blk 0 rfl).1 rfl
 have x2:=cell_heap (k:=2) (HS0.out.blk 0 rfl).1 rfl
 have x3:=cell_heap (k:=3) (HS0.out.blk 0 rfl).1 rfl
 have lx:=heap_lt0 (HS0.out.blk 0 rfl).1
 go_wp2_with fail
 refine (portWidths_any m SA AA JA MA sn sc an ac jn jc mn mc 0 _ (HM.out.below HS0.out.bel)).mono ?_
 rw [HPW.out]
 rintro _ w2 ⟨A2,c2,rfl,S2⟩
 replace HS0:=Lib.hid (HS0.out.below S2.bel)
 clear S2 x0 x1 x2 x3 lx d16
 go_wp2_with fail
 go_loopw [29] (fun i wr=>∃k:Nat,k≤rn∧i = .int .i64 (k:Int)∧Sepa w wr [.blk gX #[.slice SA sn sc,.slice AA an ac,.slice JA jn jc,.slice MA mn mc] 108]) (fun i _=>rn - (intOf i).toNat)
 case atStart=>exact ⟨0,by omega,rfl,HS0.out⟩
 case round =>
  obtain ⟨k,hkk,rfl,hs⟩:=hrel
  have HS:=Lib.hid hs
  clear hs
  by_cases hlt:k<rn
  ·have hdk:decide ((k:Int)<(rn:Int))=true:=by simp;omega
   have i0:(0:Int)≤(k:Int):=by omega
   have i1:(k:Int)<(rn:Int):=by omega
   have hkl:k<rows.length:=by rw [HRN.out];exact hlt
   obtain ⟨br,orr,S,sm,sc',hRA,hbr,cr,rr⟩:=HRR.out.rowsR (k:=k) hkl
   subst hRA
   have cr:=(HS.out.bel.cell (p:=⟨br,orr+k,none⟩) hbr).trans cr
   have lbr:=below_lt HS.out.bel hbr
   have hsm:=rr.ints.1
   rw [HLE.out k hlt] at hsm
   rw [HPW.out] at hsm
   have dne:((sm:Int) != (pw:Int))=false:=by simp;omega
   clear hkl hbr rr hsm
   go_wp2_with fail
   go_roundw
   case rel=>exact ⟨k+1,by omega,by go_num,HS.out⟩
   case measure=>simp [intOf];omega
  ·have hkn:k=rn:=by omega
   have hdk:decide ((k:Int)<(rn:Int))=false:=by simp;omega
   clear hlt
   subst k
   have HS1:=HS
   clear HS
   have x0:=cell_heap (k:=0) (HS1.out.blk 0 rfl).1 rfl
   have x1:=cell_heap (k:=1) (HS1.out.blk 0 rfl).1 rfl
   have x2:=cell_heap (k:=2) (HS1.out.blk 0 rfl).1 rfl
   have x3:=cell_heap (k:=3) (HS1.out.blk 0 rfl).1 rfl
   have lx:=heap_lt0 (HS1.out.blk 0 rfl).1
   go_wp2_with fail
   refine (evalOrder_any m SA AA JA MA sn sc an ac jn jc mn mc _ (HM.out.below HS1.out.bel)).mono ?_
   rintro _ w2 (⟨o',OA,oc,ho',rfl,S2⟩|⟨ho',-⟩)
   rotate_left
   ·exfalso
    rw [HOE.out] at ho'
    cases ho'
   have he:o'=o:=by rw [HOE.out] at ho';injection ho' with h;exact h.symm
   subst he
   clear ho'
   rw [HNO.out] at S2
   rw [HNO.out]
   have HOL:=Lib.hid (evalOrd_lt HOE.out)
   have HS2:=Lib.hid (HS1.out.join S2)
   clear S2 x0 x1 x2 x3 lx HS1 HOE
   have x0:=cell_heap (k:=0) (HS2.out.blk 0 rfl).1 rfl
   have x1:=cell_heap (k:=1) (HS2.out.blk 0 rfl).1 rfl
   have x2:=cell_heap (k:=2) (HS2.out.blk 0 rfl).1 rfl
   have x3:=cell_heap (k:=3) (HS2.out.blk 0 rfl).1 rfl
   have lx:=heap_lt0 (HS2.out.blk 0 rfl).1
   go_wp2_with fail
   refine (flatStart_any m SA AA JA MA sn sc an ac jn jc mn mc _ (HM.out.below HS2.out.bel) HF.out).mono ?_
   rintro _ w3 ⟨g0,g1,rfl,S3⟩
   have HS3:=Lib.hid ((HS2.out.join S3).pushBlk #[.slice (some ⟨g0,0,none⟩) sn sn,.slice (some ⟨g1,0,none⟩) (4 * mn) (4 * mn)] 158)
   clear S3 x0 x1 x2 x3 lx HS2
   go_upto_region 12 with fail
   obtain ⟨gS,hgS⟩:∃g,w3.heap.size=g:=⟨_,rfl⟩
   rw [hgS] at HS3
   (try rw [hgS])
   generalize w3.alloc (.cells #[.slice (some ⟨g0,0,none⟩) sn sn,.slice (some ⟨g1,0,none⟩) (4 * mn) (4 * mn)] 158)=W3 at *
   clear hgS
   have HS4:Hid (Sepa w W3 [.blk gX #[.slice SA sn sc,.slice AA an ac,.slice JA jn jc,.slice MA mn mc] 108,.cel (celI (natI o')) (.slice OA on oc),.blk gS #[.slice (some ⟨g0,0,none⟩) sn sn,.slice (some ⟨g1,0,none⟩) (4 * mn) (4 * mn)] 158,.cel (celR ((List.range 0).map (cycV m o' rows))) (.slice none 0 0),.cel (celI (stTo m o' rows 0).1) (.slice (some ⟨g0,0,none⟩) sn sn),.cel (celI (stTo m o' rows 0).2) (.slice (some ⟨g1,0,none⟩) (4 * mn) (4 * mn))]):=Lib.hid ((HS3.out.pushNil 29 1).permQ (.cons _ (.cons _ (List.perm_append_comm (l₁:=[_,_]) (l₂:=[_,_])))))
   clear HS3
   go_wp2_with fail
   go_loopw [12,47] (fun q i wr=>∃(k:Nat) (A:Option Addr) (c:Nat) (VB:Option Addr) (vd:Nat) (WB:Option Addr) (wd:Nat),k≤rn∧i = .int .i64 (k:Int)∧q = .slice A k c∧Sepa w wr [.blk gX #[.slice SA sn sc,.slice AA an ac,.slice JA jn jc,.slice MA mn mc] 108,.cel (celI (natI o')) (.slice OA on oc),.blk gS #[.slice VB sn vd,.slice WB (4 * mn) wd] 158,.cel (celR ((List.range k).map (cycV m o' rows))) (.slice A k c),.cel (celI (stTo m o' rows k).1) (.slice VB sn vd),.cel (celI (stTo m o' rows k).2) (.slice WB (4 * mn) wd)]) (fun _ i _=>rn - (intOf i).toNat)
   case atStart=>exact ⟨0,none,0,_,_,_,_,by omega,rfl,rfl,HS4.out⟩
   case round =>
    obtain ⟨k,A,c,VB,vd,WB,wd,hk,rfl,rfl,hs⟩:=hrel
    have HS:=Lib.hid hs
    clear hs
    by_cases hlt:k<rn
    ·have hdk:decide ((k:Int)<(rn:Int))=true:=by simp;omega
     have i0:(0:Int)≤(k:Int):=by omega
     have i1:(k:Int)<(rn:Int):=by omega
     have hkl:k<rows.length:=by rw [HRN.out];exact hlt
     obtain ⟨br,orr,S,sm,sc',hRA,hbr,cr,rr⟩:=HRR.out.rowsR (k:=k) hkl
     subst hRA
     have cr:=(HS.out.bel.cell (p:=⟨br,orr+k,none⟩) hbr).trans cr
     have lbr:=below_lt HS.out.bel hbr
     have hsm:=rr.ints.1
     rw [HLE.out k hlt] at hsm
     have HI:=Lib.hid rr.ints
     have HPS:Hid ((pwTo m.sigs 0 m.sigs.length).length=sm):=by show _=_;rw [←pwOf_flat HF.out];exact hsm
     have HCV:Hid (cycV m o' rows k=sigVals m o' (stTo m o' rows k).1 (rows[k]?.getD [])):=rfl
     have HST:=Lib.hid (stTo_fit HF.out HOL.out rows k)
     have HVF:=Lib.hid (cycV_fit HF.out HOL.out rows k)
     have HSK:Hid (stTo m o' rows (k+1)=(nxtV m (stTo m o' rows k).2 (cycV m o' rows k),nxtW m (stTo m o' rows k).2 (cycV m o' rows k))):=rfl
     have HCK:Hid ((List.range (k+1)).map (cycV m o' rows)=(List.range k).map (cycV m o' rows)++[cycV m o' rows k]):=by show _=_;rw [List.range_succ,List.map_append,List.map_singleton]
     generalize rows[k]?.getD []=ins at *
     generalize cycV m o' rows k=v at *
     generalize hst:stTo m o' rows k=st at *
     obtain ⟨vals,words⟩:=st
     simp only at HCV HST HSK
     clear hkl hbr rr hsm hst
     have x0:=cell_heap (k:=0) (HS.out.blk 0 rfl).1 rfl
     have x1:=cell_heap (k:=1) (HS.out.blk 0 rfl).1 rfl
     have x2:=cell_heap (k:=2) (HS.out.blk 0 rfl).1 rfl
     have x3:=cell_heap (k:=3) (HS.out.blk 0 rfl).1 rfl
     have lx:=heap_lt0 (HS.out.blk 0 rfl).1
     have s0:=cell_heap (k:=0) (HS.out.blk 2 rfl).1 rfl
     have s1:=cell_heap (k:=1) (HS.out.blk 2 rfl).1 rfl
     have ls:=heap_lt0 (HS.out.blk 2 rfl).1
     go_wp2_with fail
     refine (signalValues_any m SA AA JA MA sn sc an ac jn jc mn mc o' vals ins OA VB S on oc vd sm sc' (.slice WB (4 * mn) wd) _ (HM.out.below HS.out.bel) HF.out (HS.out.ints 1 rfl) HOL.out (by omega) (HS.out.ints 4 rfl) (HI.out.below HS.out.bel) HPS.out).mono ?_
     rw [←HCV.out]
     rintro _ w5 ⟨TA,tc,rfl,S5⟩
     have HS5:=Lib.hid (HS.out.join S5)
     clear S5 x0 x1 x2 x3 lx s0 s1 ls cr lbr
     go_upto_region 18 with (at_builtin;refine wpList_sepPushRow rfl _ _ rfl _ (HS5.out.alloc _) 3 6 (by decide) k c A ((List.range k).map (cycV m o' rows)) v TA sn tc _ (0,0) rfl rfl rfl rfl (heap_new _ _) (by omega) ?_;intro g9 cap w9 S9 hin9 hz9;have HS9:=Lib.hid S9;have HTA:=Lib.hid hin9;clear S9 hin9 hz9)
     clear HS HS5
     have x0:=cell_heap (k:=0) (HS9.out.blk 0 rfl).1 rfl
     have x1:=cell_heap (k:=1) (HS9.out.blk 0 rfl).1 rfl
     have x2:=cell_heap (k:=2) (HS9.out.blk 0 rfl).1 rfl
     have x3:=cell_heap (k:=3) (HS9.out.blk 0 rfl).1 rfl
     have lx:=heap_lt0 (HS9.out.blk 0 rfl).1
     have s0:=cell_heap (k:=0) (HS9.out.blk 2 rfl).1 rfl
     have s1:=cell_heap (k:=1) (HS9.out.blk 2 rfl).1 rfl
     have ls:=heap_lt0 (HS9.out.blk 2 rfl).1
     go_wp2_with fail
     refine (nextState_any m SA AA JA MA sn sc an ac jn jc mn mc vals words v TA WB tc wd (.slice VB sn vd) _ (HM.out.below HS9.out.bel) HF.out HST.out HVF.out HTA.out (HS9.out.ints 5 rfl)).mono ?_
     rintro _ w10 ⟨g0,WB2,wd2,rfl,S10⟩
     have HS10:=Lib.hid (HS9.out.join S10)
     clear S10 x0 x1 x2 x3 lx s0 s1 ls HS9
     have s0:=cell_heap (k:=0) (HS10.out.blk 2 rfl).1 rfl
     have s1:=cell_heap (k:=1) (HS10.out.blk 2 rfl).1 rfl
     have ls:=heap_lt0 (HS10.out.blk 2 rfl).1
     have sf:=fun k=>frozen_heap (HS10.out.blk 2 rfl).1 k
     have HP:=Lib.hid (((HS10.out.put 2 rfl 0 (.slice (some ⟨g0,0,none⟩) sn sn)).put 2 rfl 1 (.slice WB2 (4 * mn) wd2)).sub (qs:=[_,_,_,_,_,_]) (.cons_cons _ (.cons_cons _ (.cons_cons _ (.cons_cons _ (.cons _ (.cons _ (.cons _ (List.Sublist.refl _)))))))))
     go_wp2_with fail
     go_roundw
     case rel=>exact ⟨k+1,_,_,_,_,_,_,by omega,by go_num,rfl,by rw [HSK.out,HCK.out];exact HP.out⟩
     case measure=>simp [intOf];omega
    ·have hkn:k=rn:=by omega
     have hdk:decide ((k:Int)<(rn:Int))=false:=by simp;omega
     clear hlt
     subst k
     have HG:=Lib.hid (HS.out.sub (qs:=[_]) (.cons _ (.cons _ (.cons _ (.cons_cons _ (.cons _ (.cons _ (List.Sublist.refl _))))))))
     clear HS
     go_wp2_with fail
     go_ret2
     exact ⟨_,_,rfl,HG.out⟩
set_option maxHeartbeats 8000000 in
theorem flatRun_yes (m:MdT) (SA AA JA MA:Option Addr) (sn sc an ac jn jc mn mc:Nat) (o:List Nat) (rows:List (List Int)) (RA:Option Addr) (rn rc:Nat) (w:World) (h:MdRd w m SA AA JA MA sn sc an ac jn jc mn mc) (hf:FlatFit m) (hoe:evalOrd m=some o) (hr:RdC w w.heap.size (celR rows) (.slice RA rn rc)) (h16:rn≤16) (hlen:∀k,k<rn→(rows[k]?.getD []).length=(pwOf m 0).length) :
  Calls Tryz.prog 62 #[.agg #[.slice SA sn sc,.slice AA an ac,.slice JA jn jc,.slice MA mn mc],.slice RA rn rc] w fun e w'=>∃A c,e = .returned (.slice A rn c)∧Sepa w w' [.cel (celR (runs m o rows)) (.slice A rn c)]:=by
 have HL1:=Lib.hid h.lens.1
 have HL2:=Lib.hid h.lens.2.1
 have HL4:=Lib.hid h.lens.2.2.2
 have HM:=Lib.hid h
 have HF:=Lib.hid hf
 have hs30:sn≤30:=by have h1:=hf.cnt.sg;rw [HL1.out] at h1;exact h1
 have ha30:an≤30:=by have h1:=hf.cnt.asg;rw [HL2.out] at h1;exact h1
 have hm2:mn≤2:=by have h1:=hf.cnt.mm;rw [HL4.out] at h1;exact h1
 have HRR:=Lib.hid hr
 have HOL:=Lib.hid (evalOrd_lt hoe)
 have HLE:=Lib.hid hlen
 have HOE:=Lib.hid hoe
 obtain ⟨on,hon⟩:∃n,o.length=n:=⟨_,rfl⟩
 have HNO:=Lib.hid hon
 have hon30:=evalOrd_len hf hoe
 rw [hon] at hon30
 have HRN:Hid (rows.length=rn):=hr.rowsRN
 clear h hf hr hlen hoe hon
 have h0:=(Sepa.refl w).pushBlk #[.slice SA sn sc,.slice AA an ac,.slice JA jn jc,.slice MA mn mc] 108
 go_enter Tryz.func62,Tryz.ntmps62
 go_upto_region 1 with fail
 obtain ⟨gX,hgX⟩:∃g,w.heap.size=g:=⟨_,rfl⟩
 rw [hgX] at h0
 (try rw [hgX])
 clear hgX
 have HS0:=Lib.hid h0
 clear h0
 generalize w.alloc (.cells #[.slice SA sn sc,.slice AA an ac,.slice JA jn jc,.slice MA mn mc] 108)=W9 at *
 have x0:=cell_heap (k:=0) (HS0.out.blk 0 rfl).1 rfl
 have x1:=cell_heap (k:=1) (HS0.out.blk 0 rfl).1 rfl
 have x2:=cell_heap (k:=2) (HS0.out.blk 0 rfl).1 rfl
 have x3:=cell_heap (k:=3) (HS0.out.blk 0 rfl).1 rfl
 have lx:=heap_lt0 (HS0.out.blk 0 rfl).1
 go_wp2_with fail
 refine (flatCycles_yes m SA AA JA MA sn sc an ac jn jc mn mc o rows RA rn rc _ (HM.out.below HS0.out.bel) HF.out HOE.out (HRR.out.below HS0.out.bel) h16 HLE.out).mono ?_
 rintro _ w1 ⟨A,c,rfl,S1⟩
 have HS1:Hid (Sepa w w1 [.blk gX #[.slice SA sn sc,.slice AA an ac,.slice JA jn jc,.slice MA mn mc] 108,.cel (celR ((List.range rn).map (cycV m o rows))) (.slice A rn c),.cel (celR ((List.range 0).map (fun i=>outVals m (cycV m o rows i)))) (.slice none 0 0)]):=Lib.hid ((HS0.out.join S1).pushNil 29 1)
 clear S1 x0 x1 x2 x3 lx HS0 HRR HLE HOE
 go_wp2_with fail
 go_loopw [7,18] (fun q i wr=>∃(k:Nat) (B:Option Addr) (d:Nat),k≤rn∧i = .int .i64 (k:Int)∧q = .slice B k d∧Sepa w wr [.blk gX #[.slice SA sn sc,.slice AA an ac,.slice JA jn jc,.slice MA mn mc] 108,.cel (celR ((List.range rn).map (cycV m o rows))) (.slice A rn c),.cel (celR ((List.range k).map (fun i=>outVals m (cycV m o rows i)))) (.slice B k d)]) (fun _ i _=>rn - (intOf i).toNat)
 case atStart=>exact ⟨0,none,0,by omega,rfl,rfl,HS1.out⟩
 case round =>
  obtain ⟨k,B,d,hk,rfl,rfl,hs⟩:=hrel
  have HS:=Lib.hid hs
  clear hs
  by_cases hlt:k<rn
  ·have hdk:decide ((k:Int)<(rn:Int))=true:=by simp;omega
   have i0:(0:Int)≤(k:Int):=by omega
   have i1:(k:Int)<(rn:Int):=by omega
   obtain ⟨ba,oa,S,sm,sc',hA,hba,ca,ra⟩:=(HS.out.rd 1 rfl).rowsR (k:=k) (by simp;exact hlt)
   have hck:((List.range rn).map (cycV m o rows))[k]?.getD []=cycV m o rows k:=by simp [hlt]
   rw [hck] at ra
   have hi:=ra.ints
   have hsm:sm=sn:=by have h1:=(cycV_fit HF.out HOL.out rows k).1;have h2:=hi.1;rw [HL1.out] at h1;omega
   subst hsm
   have HI:=Lib.hid hi
   have HCK:Hid ((List.range (k+1)).map (fun i=>outVals m (cycV m o rows i))=(List.range k).map (fun i=>outVals m (cycV m o rows i))++[outVals m (cycV m o rows k)]):=by show _=_;rw [List.range_succ,List.map_append,List.map_singleton]
   generalize cycV m o rows k=v at *
   subst hA
   clear hba ra hck hi
   have x0:=cell_heap (k:=0) (HS.out.blk 0 rfl).1 rfl
   have x1:=cell_heap (k:=1) (HS.out.blk 0 rfl).1 rfl
   have x2:=cell_heap (k:=2) (HS.out.blk 0 rfl).1 rfl
   have x3:=cell_heap (k:=3) (HS.out.blk 0 rfl).1 rfl
   have lx:=heap_lt0 (HS.out.blk 0 rfl).1
   go_wp2_with fail
   refine (outputValues_any m SA AA JA MA sm sc an ac jn jc mn mc v S sc' _ (HM.out.below HS.out.bel) HI.out hs30).mono ?_
   rintro _ w5 ⟨TA,tc,rfl,S5⟩
   have HS5:=Lib.hid (HS.out.join S5)
   clear S5 x0 x1 x2 x3 lx ca HS
   go_upto_region 7 with (at_builtin;refine wpList_sepPushRow rfl _ _ rfl _ (HS5.out.alloc _) 2 3 (by decide) k d B ((List.range k).map (fun i=>outVals m (cycV m o rows i))) (outVals m v) TA (outVals m v).length tc _ (0,0) rfl rfl rfl rfl (heap_new _ _) (by omega) ?_;intro g9 cap w9 S9 hin9 hz9;have HS9:=Lib.hid (S9.sub (qs:=[_,_,_]) (List.sublist_append_left [_,_,_] [_]));clear S9 hin9 hz9)
   go_wp2_with fail
   go_roundw
   case rel=>exact ⟨k+1,_,_,by omega,by go_num,rfl,by rw [HCK.out];exact HS9.out⟩
   case measure=>simp [intOf];omega
  ·have hkn:k=rn:=by omega
   have hdk:decide ((k:Int)<(rn:Int))=false:=by simp;omega
   clear hlt
   subst k
   have HE:Hid ((List.range rn).map (fun i=>outVals m (cycV m o rows i))=runs m o rows):=by show _=_;unfold runs;rw [HRN.out]
   have h9:=HS.out
   rw [HE.out] at h9
   have HG:=Lib.hid (h9.sub (qs:=[_]) (.cons _ (.cons _ (List.Sublist.refl _))))
   clear HS h9
   go_wp2_with fail
   go_ret
   exact ⟨_,_,rfl,HG.out⟩
end Go.Proofs.YtlinbdkbbhpdpaaGreat

namespace Go.Proofs.YtlinbdkbbhpdpaaGreat
set_option maxRecDepth 100000
open Go.RowKit

set_option maxHeartbeats 8000000 in
theorem sourceRun_any (d:List MdT) (DA:Option Addr) (dn dc:Nat) (p:Int) (ins:List Int) (IA:Option Addr) (inn ic:Nat) (w:World) (h:RdC w w.heap.size (celMd d) (.slice DA dn dc)) (hdn:dn≤1048576) (hi:Ints w IA inn ins) :
  Calls Tryz.prog 18 #[.agg #[.slice DA dn dc],.int .i64 p,.slice IA inn ic] w fun e w'=>∃A n c,e = .returned (.slice A n c)∧Sepa w w' [.cel (celI (srcD d p ins)) (.slice A n c)]:=by
 have HD:=Lib.hid h
 have HI:=Lib.hid hi
 have HIL:=Lib.hid hi.1
 clear h hi
 have h0:=(Sepa.refl w).pushBlk #[.slice DA dn dc] 48
 go_enter Tryz.func18,Tryz.ntmps18
 go_upto_region 1 with fail
 have HS0:=Lib.hid h0
 clear h0
 generalize w.alloc (.cells #[.slice DA dn dc] 48)=W9 at *
 obtain ⟨gB,hgB⟩:∃g,w.heap.size=g:=⟨_,rfl⟩
 rw [hgB] at HS0
 (try rw [hgB])
 clear hgB
 have x0:=cell_heap (k:=0) (HS0.out.blk 0 rfl).1 rfl
 have lx:=heap_lt0 (HS0.out.blk 0 rfl).1
 go_wp2_with fail
 refine (flatten_any d DA dn dc p _ (HD.out.below HS0.out.bel) hdn).mono ?_
 rintro _ w2 (⟨m,SA,sc,AA,ac,MA,mc,hfd,rfl,S2⟩|⟨hfd,rfl,b2⟩)
 rotate_left
 ·have HB:=Lib.hid (below_new (below_tr HS0.out.bel b2) (.cells #[.slice none 0 0,.slice none 0 0,.slice none 0 0,.slice none 0 0] 108))
  have HE:Hid (srcD d p ins=[]):=srcD_none ins hfd
  clear x0 lx HS0 b2 hfd
  go_wp2_with fail
  go_ret
  exact ⟨_,_,_,rfl,by rw [HE.out];exact (Sepa.nil HB.out).pushNil 3 1⟩
 have HF:=Lib.hid (flatD_fit hfd)
 obtain ⟨o,hoe⟩:=HF.out.ord
 have HOE:=Lib.hid hoe
 have HW0:=Lib.hid (HF.out.wds 0)
 have HW1:=Lib.hid (HF.out.wds 1)
 have HU0:Hid (sumI (pwOf m 0)≤20):=by have h1:=HF.out.ins;show _≤_;omega
 have HU1:Hid (sumI (pwOf m 1)≤20):=by have h1:=HF.out.outs;show _≤_;omega
 have HP0:=Lib.hid (pwOf_len30 HF.out 0)
 have HP1:=Lib.hid (pwOf_len30 HF.out 1)
 have HFD:=Lib.hid hfd
 have hS3:=S2.pushBlk #[.slice SA m.sigs.length sc,.slice AA m.asgs.length ac,.slice none 0 0,.slice MA m.mems.length mc] 108
 have hbx:=heap_new w2 (.cells #[.slice SA m.sigs.length sc,.slice AA m.asgs.length ac,.slice none 0 0,.slice MA m.mems.length mc] 108)
 go_upto_region 2 with fail
 obtain ⟨gX,hgX⟩:∃g,w2.heap.size=g:=⟨_,rfl⟩
 rw [hgX] at hbx
 (try rw [hgX])
 generalize w2.alloc (.cells #[.slice SA m.sigs.length sc,.slice AA m.asgs.length ac,.slice none 0 0,.slice MA m.mems.length mc] 108)=wB at *
 have HBX:=Lib.hid hbx
 have HB0:=Lib.hid (below_tr HS0.out.bel hS3.bel)
 have HM:Hid (MdRd wB m SA AA none MA m.sigs.length sc m.asgs.length ac 0 0 m.mems.length mc):=⟨hS3.rd 0 rfl,hS3.rd 1 rfl,by rw [List.eq_nil_of_length_eq_zero HF.out.no_ins];exact ((Sepa.refl wB).pushNil 202 3).rd 0 rfl,hS3.rd 2 rfl⟩
 clear hS3 hbx S2 hfd hoe x0 lx HS0 hgX
 by_cases hin:inn≤16
 rotate_left
 ·have d16:decide ((16:Int)<(inn:Int))=true:=decide_eq_true (by omega)
  have HE:Hid (srcD d p ins=[]):=srcD_long (by rw [HIL.out];exact hin)
  clear hin
  go_wp2_with fail
  go_ret
  exact ⟨_,_,_,rfl,by rw [HE.out];exact (Sepa.nil HB0.out).pushNil 3 1⟩
 have d16:decide ((16:Int)<(inn:Int))=false:=decide_eq_false (by omega)
 go_wp2_with fail
 clear d16
 go_loopw [9,30] (fun q i wr=>∃(k:Nat) (B:Option Addr) (c:Nat),k≤inn∧i = .int .i64 (k:Int)∧q = .slice B k c∧Sepa wB wr [.cel (celR ((ins.take k).map (unp (pwOf m 0)))) (.slice B k c)]) (fun _ i _=>inn - (intOf i).toNat)
 case atStart=>exact ⟨0,none,0,by omega,rfl,rfl,(Sepa.refl wB).pushNil 29 1⟩
 case round =>
  obtain ⟨k,B,c,hk,rfl,rfl,hs⟩:=hrel
  have HS:=Lib.hid hs
  clear hs
  by_cases hlt:k<inn
  ·have hdk:decide ((k:Int)<(inn:Int))=true:=by simp;omega
   have i0:(0:Int)≤(k:Int):=by omega
   have i1:(k:Int)<(inn:Int):=by omega
   obtain ⟨bi,oi,hIA,hbi,hci⟩:=HI.out.2 (by omega)
   have ci:=((below_tr HB0.out HS.out.bel).cell (p:=⟨bi,oi+k,none⟩) hbi).trans (hci k hlt)
   have lbi:=below_lt (below_tr HB0.out HS.out.bel) hbi
   subst hIA
   have HTK:Hid ((ins.take (k+1)).map (unp (pwOf m 0))=(ins.take k).map (unp (pwOf m 0))++[unp (pwOf m 0) (ins[k]?.getD 0)]):=by show _=_;rw [take_snocI (by rw [HIL.out];exact hlt),List.map_append,List.map_singleton]
   generalize ins[k]?.getD 0=x at *
   clear hci hbi
   have x0:=cell_heap (k:=0) (heap_tr (HS.out.bel) HBX.out) rfl
   have x1:=cell_heap (k:=1) (heap_tr (HS.out.bel) HBX.out) rfl
   have x2:=cell_heap (k:=2) (heap_tr (HS.out.bel) HBX.out) rfl
   have x3:=cell_heap (k:=3) (heap_tr (HS.out.bel) HBX.out) rfl
   have lx:=heap_lt0 (heap_tr (HS.out.bel) HBX.out)
   go_wp2_with fail
   refine (portWidths_any m SA AA none MA m.sigs.length sc m.asgs.length ac 0 0 m.mems.length mc 0 _ (HM.out.below HS.out.bel)).mono ?_
   rintro _ w5 ⟨A5,c5,rfl,S5⟩
   have HS5:=Lib.hid (HS.out.join S5)
   clear S5 ci lbi x0 x1 x2 x3 lx
   go_wp2_with fail
   refine (unpackBits_any A5 _ c5 _ x _ (HS5.out.ints 1 rfl) HW0.out HU0.out HP0.out).mono ?_
   rintro _ w6 ⟨B6,d6,rfl,S6⟩
   have HS6:=Lib.hid (HS5.out.join S6)
   clear S6 HS5
   go_upto_region 9 with (at_builtin;refine wpList_sepPushRow rfl _ _ rfl _ (HS6.out.alloc _) 0 2 (by decide) k c B ((ins.take k).map (unp (pwOf m 0))) _ B6 (pwOf m 0).length d6 _ (0,0) rfl rfl rfl rfl (heap_new _ _) (by omega) ?_;intro g9 cap w9 S9 hin9 hz9;have HS9:=Lib.hid (S9.sub (qs:=[_]) (List.sublist_append_left [_] [_,_]));clear S9 hin9 hz9)
   go_wp2_with fail
   go_roundw
   case rel=>exact ⟨k+1,_,_,by omega,by go_num,rfl,by rw [HTK.out];exact HS9.out⟩
   case measure=>simp [intOf];omega
  ·have hkn:k=inn:=by omega
   have hdk:decide ((k:Int)<(inn:Int))=false:=by simp;omega
   clear hlt
   subst k
   have h9:=HS.out
   rw [List.take_of_length_le (by rw [HIL.out];exact Nat.le_refl _)] at h9
   have HRW:=Lib.hid h9
   clear HS h9
   generalize hrw:ins.map (unp (pwOf m 0))=rows at *
   have HRE:=Lib.hid hrw
   clear hrw
   have x0:=cell_heap (k:=0) (heap_tr (HRW.out.bel) HBX.out) rfl
   have x1:=cell_heap (k:=1) (heap_tr (HRW.out.bel) HBX.out) rfl
   have x2:=cell_heap (k:=2) (heap_tr (HRW.out.bel) HBX.out) rfl
   have x3:=cell_heap (k:=3) (heap_tr (HRW.out.bel) HBX.out) rfl
   have lx:=heap_lt0 (heap_tr (HRW.out.bel) HBX.out)
   go_wp2_with fail
   refine (flatRun_yes m SA AA none MA m.sigs.length sc m.asgs.length ac 0 0 m.mems.length mc o rows B inn c _ (HM.out.below HRW.out.bel) HF.out HOE.out (HRW.out.rd 0 rfl) hin (by rw [←HRE.out];exact rows_lenS HIL.out)).mono ?_
   rintro _ w3 ⟨RA,rc,rfl,S3⟩
   have HS3:=Lib.hid (((S3.low HRW.out.bel)).pushNil 3 1)
   have HRL:Hid (rows.length=inn):=by show _=_;rw [←HRE.out,List.length_map,HIL.out]
   have HSRC:Hid (srcD d p ins=(runs m o rows).map (pck (pwOf m 1))):=by show _=_;rw [srcD_some HFD.out HOE.out (by rw [HIL.out];exact hin),HRE.out]
   clear S3 HRW x0 x1 x2 x3 lx
   go_wp2_with fail
   go_loopw [12,46] (fun q i wr=>∃(k:Nat) (B:Option Addr) (c:Nat),k≤inn∧i = .int .i64 (k:Int)∧q = .slice B k c∧Sepa wB wr [.cel (celR (runs m o rows)) (.slice RA inn rc),.cel (celI (((runs m o rows).take k).map (pck (pwOf m 1)))) (.slice B k c)]) (fun _ i _=>inn - (intOf i).toNat)
   case atStart=>exact ⟨0,none,0,by omega,rfl,rfl,HS3.out⟩
   case round =>
    obtain ⟨k,B,c,hk,rfl,rfl,hs⟩:=hrel
    have HS:=Lib.hid hs
    clear hs
    by_cases hlt:k<inn
    ·have hdk:decide ((k:Int)<(inn:Int))=true:=by simp;omega
     have i0:(0:Int)≤(k:Int):=by omega
     have i1:(k:Int)<(inn:Int):=by omega
     obtain ⟨ba,oa,S,sm,sc',hA,hba,ca,ra⟩:=(HS.out.rd 0 rfl).rowsR (k:=k) (by rw [runs_len,HRL.out];exact hlt)
     have hri:=ra.ints
     have hsm:sm=(pwOf m 1).length:=by rw [←hri.1];exact runs_at HF.out o rows (by rw [HRL.out];exact hlt)
     subst hsm
     have HRI:=Lib.hid hri
     have HTK:Hid (((runs m o rows).take (k+1)).map (pck (pwOf m 1))=((runs m o rows).take k).map (pck (pwOf m 1))++[pck (pwOf m 1) ((runs m o rows)[k]?.getD [])]):=by show _=_;rw [take_snocL (by rw [runs_len,HRL.out];exact hlt),List.map_append,List.map_singleton]
     generalize (runs m o rows)[k]?.getD []=v at *
     subst hA
     have lba:ba<wr.heap.size:=hba
     clear hba ra hri
     have x0:=cell_heap (k:=0) (heap_tr (HS.out.bel) HBX.out) rfl
     have x1:=cell_heap (k:=1) (heap_tr (HS.out.bel) HBX.out) rfl
     have x2:=cell_heap (k:=2) (heap_tr (HS.out.bel) HBX.out) rfl
     have x3:=cell_heap (k:=3) (heap_tr (HS.out.bel) HBX.out) rfl
     have lx:=heap_lt0 (heap_tr (HS.out.bel) HBX.out)
     go_wp2_with fail
     refine (portWidths_any m SA AA none MA m.sigs.length sc m.asgs.length ac 0 0 m.mems.length mc 1 _ (HM.out.below HS.out.bel)).mono ?_
     rintro _ w5 ⟨A5,c5,rfl,S5⟩
     have HS5:=Lib.hid (HS.out.join S5)
     have HRI5:=Lib.hid (HRI.out.below S5.bel)
     clear S5 ca lba x0 x1 x2 x3 lx
     go_wp2_with fail
     refine (packBits_any A5 _ c5 _ v S sc' _ (HS5.out.ints 2 rfl) HRI5.out HW1.out HU1.out HP1.out).mono ?_
     rintro _ w6 ⟨rfl,b6⟩
     have HS6:=Lib.hid (HS5.out.below b6)
     clear b6 HS5 HRI5
     generalize pck (pwOf m 1) v=y at *
     go_upto_region 15 with (at_builtin;refine wpList_sepPush rfl _ _ rfl _ (HS6.out.alloc _) 1 B k c (((runs m o rows).take k).map (pck (pwOf m 1))) y _ (0,0) rfl rfl rfl (heap_new _ _) (by omega) ?_;intro g9 cap w9 S9 hz9;have HS9:=Lib.hid (S9.sub (qs:=[_,_]) (List.sublist_append_left [_,_] [_]));clear S9 hz9)
     go_wp2_with fail
     go_roundw
     case rel=>exact ⟨k+1,_,_,by omega,by go_num,rfl,by rw [HTK.out];exact HS9.out⟩
     case measure=>simp [intOf];omega
    ·have hkn:k=inn:=by omega
     have hdk:decide ((k:Int)<(inn:Int))=false:=by simp;omega
     clear hlt
     subst k
     have HE:Hid ((((runs m o rows).take inn).map (pck (pwOf m 1)))=srcD d p ins):=by show _=_;rw [List.take_of_length_le (by rw [runs_len,HRL.out];exact Nat.le_refl _),HSRC.out]
     have h9:=HS.out
     rw [HE.out] at h9
     have HG:=Lib.hid ((h9.sub (qs:=[_]) (.cons _ (List.Sublist.refl _))).low HB0.out)
     clear HS h9
     go_wp2_with fail
     go_ret
     exact ⟨_,_,_,rfl,HG.out⟩
end Go.Proofs.YtlinbdkbbhpdpaaGreat

namespace Go.Proofs.YtlinbdkbbhpdpaaGreat
set_option maxRecDepth 100000
open Go.RowKit

theorem srcD_len (d:List MdT) (p:Int) (ins:List Int):(srcD d p ins).length≤16:=by
 unfold srcD
 split
 ·simp
 ·split
  ·simp
  ·split
   ·rename_i h
    rw [List.length_map,runs_len,List.length_map]
    exact h
   ·simp
theorem cnt_flatQ {α:Type} {cells:α→List Cel} (h:∀x,cntL (cells x)≤4 * (1+szCL (cells x))):∀xs:List α,cntL (xs.flatMap cells)≤4 * (xs.length+szCL (xs.flatMap cells))
 | []=>by simp [cntL]
 | x :: xs=>by
  have h1:=h x
  have h2:=cnt_flatQ h xs
  rw [List.flatMap_cons,cntL_append,szCL_append,List.length_cons]
  omega
theorem cnt_rowQ {α:Type} {cells:α→List Cel} {e s:Nat} (hf:∀x,(cells x).length=s) (hs:0<s) (h:∀x,cntL (cells x)≤4 * (1+szCL (cells x))) (xs:List α):cntC (.row e s (xs.flatMap cells))≤4 * szC (.row e s (xs.flatMap cells)):=by
 rw [szC_flat hf hs,cntC]
 exact cnt_flatQ h xs
theorem cnt_intsQ (xs:List Int):cntC (celI xs)≤4 * szC (celI xs):=by rw [szC_ints,celI,cntC,cnt_ints];omega
theorem cnt_sgQ (xs:List SgT):cntC (celSg xs)≤4 * szC (celSg xs):=cnt_rowQ (cells:=SgT.cells) (s:=3) (fun _=>rfl) (by omega) (fun x=>by simp [SgT.cells,cntL,cntC];omega) xs
theorem cnt_opQ (xs:List OpT):cntC (celOp xs)≤4 * szC (celOp xs):=cnt_rowQ (cells:=OpT.cells) (s:=3) (fun _=>rfl) (by omega) (fun x=>by simp [OpT.cells,cntL,cntC];omega) xs
theorem cnt_asQ (xs:List AsT):cntC (celAs xs)≤4 * szC (celAs xs):=cnt_rowQ (cells:=AsT.cells) (s:=2) (fun _=>rfl) (by omega) (fun x=>by have:=cnt_opQ x.ops;simp only [AsT.cells,cntL,cntC,szCL_cons,szCL_nil,szC_int] at this ⊢;omega) xs
theorem cnt_inQ (xs:List InT):cntC (celIn xs)≤4 * szC (celIn xs):=cnt_rowQ (cells:=InT.cells) (s:=3) (fun _=>rfl) (by omega) (fun x=>by have:=cnt_intsQ x.ports;simp only [InT.cells,cntL,cntC,szCL_cons,szCL_nil,szC_int] at this ⊢;omega) xs
theorem cnt_mmQ (xs:List MmT):cntC (celMm xs)≤4 * szC (celMm xs):=cnt_rowQ (cells:=MmT.cells) (s:=4) (fun _=>rfl) (by omega) (fun x=>by simp [MmT.cells,cntL,cntC];omega) xs
theorem cnt_mdQ (xs:List MdT):cntC (celMd xs)≤4 * szC (celMd xs):=cnt_rowQ (cells:=MdT.cells) (s:=4) (fun _=>rfl) (by omega) (fun x=>by
 have h1:=cnt_sgQ x.sigs;have h2:=cnt_asQ x.asgs;have h3:=cnt_inQ x.insts;have h4:=cnt_mmQ x.mems
 simp only [MdT.cells,cntL,szCL_cons,szCL_nil]
 omega) xs
theorem md_len {w:World} {B n c:Nat} {A:Option Addr} {xs:List MdT} (h:RdC w B (celMd xs) (.slice A n c)):n≤szC (celMd xs):=by
 have h1:=h.mdN
 unfold celMd
 rw [szC_flat (cells:=MdT.cells) (s:=4) (fun _=>rfl) (by omega)]
 omega
theorem OwnsL.oneT {lo hi:Nat} {w:World} {c:Cel} {v:Value} (h:OwnsL lo hi w [c] [v]):OwnT lo hi w c v:=by
 obtain ⟨F,h1,h2,h3⟩:=h
 obtain ⟨v0,vs,F1,F2,e,rfl,k1,k2⟩:=ownL_cons.1 h1
 injection e with e _
 subst e
 obtain ⟨_,rfl⟩:=ownL_nil.1 k2
 rw [List.append_nil] at h2 h3
 exact ⟨F1,k1,h2,h3⟩
/-- A piece is marked. -/
theorem mark_cel {P:Program} {f:FuncId} {i n p:Nat} {W w:World} {ps:List Pc} {c:Cel} {A:Option Addr} {k0:Int} (h:Sepa W w ps) (hi:ps[i]?=some (.cel c (.slice A n p)))
  (hf:∀F,OwnC w c (.slice A n p) F→F.Nodup→Calls P f #[.slice A n p,.int .i64 k0] w fun e w'=>e = .returned (.int .i64 (k0+(cntC c:Int)))∧OwnC w' (mkC k0 c) (.slice A n p) F∧Only F w w') :
  Calls P f #[.slice A n p,.int .i64 k0] w fun e w'=>e = .returned (.int .i64 (k0+(cntC c:Int)))∧Sepa W w' (ps.set i (.cel (mkC k0 c) (.slice A n p))):=by
 obtain ⟨F,h1,h2,h3,h4⟩:=h.part i hi
 refine (hf F h1 h2).mono ?_
 rintro e w' ⟨rfl,k1,k2⟩
 exact ⟨rfl,h4 w' _ F k1 h2 (fun k hk => .inl hk) k2⟩
theorem mkC_celIQ (k:Int) (p:List Int):mkC k (celI p)=celI (iota k p.length):=by rw [celI,mkC,mk_ints];rfl
set_option maxHeartbeats 2000000 in
theorem markDesign_sep (A:Option Addr) (n c:Nat) (xs:List MdT) (W:World) (ps:List Pc) (i:Nat) (k0:Int) (w:World) (h:Sepa W w ps) (hi:ps[i]?=some (.cel (celMd xs) (.slice A n c))) (hk0:0≤k0) (hk1:k0+(cntC (celMd xs):Int)≤1099511627776) :
  Calls Tryz.prog 21 #[.agg #[.slice A n c],.int .i64 k0] w fun e w'=>e = .returned (.int .i64 (k0+(cntC (celMd xs):Int)))∧Sepa W w' (ps.set i (.cel (mkC k0 (celMd xs)) (.slice A n c))):=by
 have HO:=Lib.hid (h.consBlkQ #[.slice A n c] 48)
 have hi1:(Pc.blk w.heap.size #[.slice A n c] 48 :: ps)[i+1]?=some (.cel (celMd xs) (.slice A n c)):=hi
 have HI:=Lib.hid hi1
 clear h hi hi1
 generalize hq:cntC (celMd xs)=q at *
 have HQ:=Lib.hid hq
 clear hq
 go_enter Tryz.func21,Tryz.ntmps21
 go_upto_region 1 with fail
 obtain ⟨gx,hgx⟩:∃g,w.heap.size=g:=⟨_,rfl⟩
 rw [hgx] at HO HI
 (try rw [hgx])
 clear hgx
 generalize w.alloc (.cells #[.slice A n c] 48)=W0 at *
 have x0:=cell_heap (k:=0) (HO.out.blk 0 rfl).1 rfl
 have lx:=heap_lt0 (HO.out.blk 0 rfl).1
 go_wp2_with fail
 refine (mark_cel HO.out HI.out (fun F a b=>markModuleS_any _ _ _ _ F _ _ a b (by omega) (by rw [HQ.out];omega))).mono ?_
 rw [HQ.out]
 rintro _ w0 ⟨rfl,o0⟩
 have HO2:Hid (Sepa W w0 (Pc.blk gx #[.slice A n c] 48 :: ps.set i (.cel (mkC k0 (celMd xs)) (.slice A n c)))):=Lib.hid o0
 clear o0 x0 lx
 go_wp2_with fail
 go_ret
 exact ⟨rfl,HO2.out.tail⟩
end Go.Proofs.YtlinbdkbbhpdpaaGreat
