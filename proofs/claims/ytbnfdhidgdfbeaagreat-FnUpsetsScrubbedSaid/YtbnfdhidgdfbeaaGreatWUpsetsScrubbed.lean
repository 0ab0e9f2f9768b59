/- FnUpsetsScrubbed, the walk (printed by mkwb.py). -/
import Derived.Test.YtbnfdhidgdfbeaaGreatAb
import Derived.Test.YtbnfdhidgdfbeaaGreatCmPure
import Derived.Test.YtbnfdhidgdfbeaaGreatDrwBd
import Derived.Test.YtbnfdhidgdfbeaaGreatDrwN
import Derived.Test.YtbnfdhidgdfbeaaGreatOps
import Derived.Test.YtbnfdhidgdfbeaaGreatRt3
import Derived.Test.YtbnfdhidgdfbeaaGreatSamB
import Derived.Test.YtbnfdhidgdfbeaaGreatSp
import Derived.Test.YtbnfdhidgdfbeaaGreatSpS
import Derived.Test.YtbnfdhidgdfbeaaGreatStaW
import Derived.Test.YtbnfdhidgdfbeaaGreatUp
import Derived.Test.YtbnfdhidgdfbeaaGreatUsPure
namespace Go.Proofs.YtbnfdhidgdfbeaaGreat
set_option maxRecDepth 100000
open Go.RowKit
attribute [local go_sem ↓] Go.wp_at_zero Go.wp_at_succ

set_option maxHeartbeats 8000000 in
theorem law_upsetsScrubbed (A:Option Addr) (n c:Nat) (bs:List Int) (w:World) (h:Bytes w w.heap.size A n bs) (_hm:n≤maxLen) :
  Calls Tryz.prog 6 #[.slice A n c] w fun e w'=>e = .returned (.bool true)∧Below w.heap.size w w':=by
 by_cases g:n≤1048576
 ·have d:decide ((n:Int)>1048576)=false:=by simp;omega
  have HB:=Lib.hid h
  have HQ:=Lib.hid (fun i=>atN_bd h i)
  have HE:=at_hid A n c bs w h (by omega)
  clear h
  go_enter Tryz.func6,Tryz.ntmps6
  go_wp2_with (go_at_call 9;refine (big_any _ _ _ _).mono ?_;rintro e w' ⟨rfl,rfl⟩)
  refine (drawBoard_any A n c bs _ HB.out (by omega)).mono ?_
  rintro e w1 ⟨b,s,ps,PA,pc,rfl,hgood,hps,hrd,hpi,b1⟩
  have hb2:Below w1.heap.size w1 (w1.alloc (.cells (bdArr b s) 31)):=below_new (Below.refl _ _) _
  have HX0:Hid (BkAt (w1.alloc (.cells (bdArr b s) 31)) w1.heap.size b s):=heap_new _ _
  have HW:=Lib.hid (below_tr b1 hb2)
  have HR0:=Lib.hid (BoardRd.below hrd hb2)
  have HP:=Lib.hid (hpi.below hb2)
  have HGD:=Lib.hid hgood
  have HPS:=Lib.hid hps
  have hts:=(tiles_eq (framesOk_iff (bk_parts hgood.bk).1).1).2
  have HTS:Hid (tiles b.dev≤36):=hts.2
  obtain ⟨z1,z2,z3⟩:=bk_small hgood.bk
  have hz1:size2 b.frames≤1099511627776:=by omega
  have hz3:size2 b.saved≤1099511627776:=by omega
  have hst:=hrd.state.1
  have hz2:s.n2≤16777216:=by omega
  have hszA:(w1.alloc (.cells (bdArr b s) 31)).heap.size=w1.heap.size+1:=by simp
  have hgb:w1.heap.size<(w1.alloc (.cells (bdArr b s) 31)).heap.size:=by omega
  clear b1 hb2 hrd hpi hgood hps z1 z2 z3 hst hts
  have HFO:=Lib.hid (bk_parts HGD.out.bk).1
  have hfw:=fwI_bd (framesOk_iff HFO.out).1
  have hM0:=(tiles_eq (framesOk_iff HFO.out).1).2
  have HPO:=Lib.hid (pads_ok (framesOk_iff HFO.out).1 HPS.out.1 HPS.out.2)
  have HFL:Hid (b.frames.length=tiles b.dev):=(framesOk_iff HFO.out).2.1
  have HFK:Hid (FlOk b.dev b.frames (fun j=>(atN bs (j+3) % fwI b.dev).toNat) (fun j=>(atN bs (j+4) % 22).toNat)):=by
   refine ⟨HFO.out,HGD.out.code,fun j=>?_,fun j=>?_⟩
   ·have h1:=Int.emod_nonneg (atN bs (j+3)) (show fwI b.dev≠0 by omega)
    have h2:=Int.emod_lt_of_pos (atN bs (j+3)) (show 0<fwI b.dev by omega)
    omega
   ·have h1:=Int.emod_nonneg (atN bs (j+4)) (show (22:Int)≠0 by omega)
    have h2:=Int.emod_lt_of_pos (atN bs (j+4)) (show (0:Int)<22 by omega)
    omega
  have HKK:Hid (∀j:Nat,(atN bs (j+3)).tmod (fwI b.dev)=(((atN bs (j+3) % fwI b.dev).toNat:Nat):Int)):=fun j=>by
   have h1:=Int.emod_nonneg (atN bs (j+3)) (show fwI b.dev≠0 by omega)
   rw [Int.tmod_eq_emod_of_nonneg (HQ.out _).1]
   omega
  have HBB:Hid (∀j:Nat,(atN bs (j+4)).tmod 22=(((atN bs (j+4) % 22).toNat:Nat):Int)):=fun j=>by
   have h1:=Int.emod_nonneg (atN bs (j+4)) (show (22:Int)≠0 by omega)
   rw [Int.tmod_eq_emod_of_nonneg (HQ.out _).1]
   omega
  generalize hkk:(fun j=>(atN bs (j+3) % fwI b.dev).toNat)=kk at HFK
  generalize hbb:(fun j=>(atN bs (j+4) % 22).toNat)=bb at HFK
  have HKE:Hid (∀j:Nat,(atN bs (j+3)).tmod (fwI b.dev)=((kk j:Nat):Int)):=fun j=>by rw [HKK.out j,←hkk]
  have HBE:Hid (∀j:Nat,(atN bs (j+4)).tmod 22=((bb j:Nat):Int)):=fun j=>by rw [HBB.out j,←hbb]
  obtain ⟨cc,hcc⟩:∃cc:Nat→Bool,∀j,cc j=decide ((atN bs j).tmod 2=0):=⟨_,fun _=>rfl⟩
  have HCC:=Lib.hid hcc
  have HTB:=Lib.hid (fun k=>bk_small (upT_bk (c:=cc) HGD.out HFK.out k))
  have HTY:=Lib.hid (fun (k:Nat) hk hc=>upT_yes (c:=cc) HGD.out HFK.out (k:=k) hk hc)
  have HTN:=Lib.hid (fun (k:Nat) hk hc=>upT_no (b:=b) (c:=cc) (kk:=kk) (bb:=bb) (k:=k) hk hc)
  have HTS2:=Lib.hid (upT_scrub (c:=cc) HGD.out HFK.out)
  rw [HFL.out] at HTS2
  have HT0:Hid (upT b cc kk bb 0=b):=upT_zero
  clear hkk hbb hcc HKK HBB
  obtain ⟨x0,x1,x2,x3,x4,x5,x6,x7,x8,x9,x10,x11⟩:=HX0.out.cells
  have hs0:(w1.alloc (.cells (bdArr b s) 31)).heap.size=w1.heap.size+1:=by simp
  have hb3:Below (w1.alloc (.cells (bdArr b s) 31)).heap.size (w1.alloc (.cells (bdArr b s) 31)) ((w1.alloc (.cells (bdArr b s) 31)).alloc (.cells (bdArr b s) 31)):=below_new (Below.refl _ _) _
  have HXB:Hid (BkAt ((w1.alloc (.cells (bdArr b s) 31)).alloc (.cells (bdArr b s) 31)) (w1.heap.size+1) b s):=heap_newAt hs0
  go_wp2_with fail
  generalize hW2:(w1.alloc (.cells (bdArr b s) 31))=w2 at *
  generalize hW3:(w2.alloc (.cells (bdArr b s) 31))=w3 at *
  generalize hg0:w1.heap.size=g0 at *
  clear hW2 hW3 hg0 hszA x0 x1 x2 x3 x4 x5 x6 x7 x8 x9 x10 x11
  obtain ⟨A1,n1,c1,A2,n2,c2,A3,n3,c3⟩:=s
  have hF0:Rows2 w2 A1 n1 b.frames:=HR0.out.frames
  have hn1:n1=tiles b.dev:=by rw [←hF0.1];exact HFL.out
  subst hn1
  obtain ⟨bf,of,rfl,hbf,hrows⟩:=hF0.2 (by omega)
  have HROW:=Lib.hid hrows
  clear hrows hF0
  go_loopw [6,7] (fun cnt i wr=>∃(k:Nat) (s':Sl3),k≤tiles b.dev∧i = .int .i64 k∧cnt = .int .i64 ((flN cc k:Nat):Int)∧BkAt wr (g0+1) (upT b cc kk bb k) s'∧(BoardRd w2 (upT b cc kk bb k) s'∨∃lo hi,BoardFpN (g0+1) lo hi wr (upT b cc kk bb k) s')∧Below w2.heap.size w2 wr) (fun _ i _=>tiles b.dev - (intOf i).toNat)
  case atStart=>exact ⟨0,_,Nat.zero_le _,rfl,rfl,by rw [HT0.out];exact HXB.out,.inl (by rw [HT0.out];exact HR0.out),hb3⟩
  case round =>
   obtain ⟨k,s',hk,rfl,rfl,hbk,hst,hbe⟩:=hrel
   have HBK:=Lib.hid hbk
   have HRK:Hid (BoardRd wr (upT b cc kk bb k) s'):=by
    rcases hst with h|⟨lo,hi,h⟩
    ·exact BoardRd.below h hbe
    ·exact h.fp.rd
   have HST:=Lib.hid hst
   have HBe:=Lib.hid hbe
   have HX0r:=Lib.hid (HX0.out.tr hbe)
   have HWr:=Lib.hid (below_tr HW.out hbe)
   have hsw:=hbe.size
   obtain ⟨y1,y2,y3⟩:=HTB.out k
   have hn2:=HRK.out.state.1
   have y4:s'.n2≤16777216:=by omega
   obtain ⟨x0,x1,x2,x3,x4,x5,x6,x7,x8,x9,x10,x11⟩:=HX0r.out.cells
   by_cases hlt:k<tiles b.dev
   ·have hdk:decide ((k:Int)<(tiles b.dev:Int))=true:=by simp;omega
    have HA0:=Lib.hid (HE.out k (k:Int) wr rfl (by omega) HWr.out)
    have hck:=HCC.out k
    have HNS:Hid (flN cc (k+1)=flN cc k+if cc k=true then 1 else 0):=rfl
    have hnl:=flN_le cc k
    have i0:(0:Int)≤(k:Int):=by omega
    have i1:(k:Int)<(tiles b.dev:Int):=by omega
    have HLT:=Lib.hid hlt
    cases hc:cc k with
    | true =>
     have hm2:(atN bs k).tmod 2=0:=by rw [hc] at hck;exact of_decide_eq_true hck.symm
     obtain ⟨hup1,hup2⟩:=HTY.out k (by rw [HFL.out];exact hlt) hc
     have HUC:Hid (∀w':World,BoardRd w' (upT b cc kk bb k) s'→Calls Tryz.prog 23 #[.agg (bdArr (upT b cc kk bb k) s'),.int .i64 (k:Int),.int .i64 ((kk k:Nat):Int),.int .i64 ((bb k:Nat):Int)] w' fun e w''=>∃R,e = .returned (.tuple #[.agg (bdArr (upT b cc kk bb (k+1)) R),.bool true])∧BoardFp w'.heap.size w''.heap.size w'' (upT b cc kk bb (k+1)) R∧Below w'.heap.size w' w''):=fun w' hr=>by
      refine (upsetBit_any (upT b cc kk bb k) s' (k:Int) ((kk k:Nat):Int) ((bb k:Nat):Int) w' hr (by omega) y4 (by omega)).mono ?_
      rintro e w'' ⟨R,rfl,f,b'⟩
      rw [hup2] at f
      exact ⟨R,by rw [hup1,hup2],f,b'⟩
     have HNY:Hid (((flN cc (k+1):Nat):Int)=((flN cc k:Nat):Int)+1):=by show _=_;rw [HNS.out,if_pos hc];omega
     obtain ⟨RA,m3,rc,hrow,hri⟩:=HROW.out k hlt
     have hm3:(m3:Int)=fwI b.dev:=by
      have h1:=(wordsOk_iff.1 ((framesOk_iff HFO.out).2.2 k (by rw [HFL.out];exact hlt))).1
      rw [←hri.1];exact h1
     have hrowr:=(hbe.cell (p:=⟨bf,of+k,none⟩) hbf).trans hrow
     have hbfr:bf<wr.heap.size:=by omega
     have hke:=HKE.out k
     have hbbe:=HBE.out k
     rw [←hm3] at hke
     have hm0:¬(m3:Int)=0:=by omega
     have hm00:¬m3=0:=by omega
     have HM3:=Lib.hid hm3
     have HA1:=Lib.hid (fun w' hb=>HE.out (k+3) ((k:Int)+3) w' (by omega) (by omega) (below_tr HWr.out hb))
     have HA2:=Lib.hid (fun w' hb=>HE.out (k+4) ((k:Int)+4) w' (by omega) (by omega) (below_tr HWr.out hb))
     have a1:IntKind.i64.wrap ((k:Int)+3)=(k:Int)+3:=IntWalk.i64_in _ (by omega)
     have a2:IntKind.i64.wrap ((k:Int)+4)=(k:Int)+4:=IntWalk.i64_in _ (by omega)
     have hq3:((atN bs k).tmod 2==0)=true:=by rw [hm2];rfl
     clear hm3 hup1 hup2 hrow hri hck hbk hst hbe hm2
     generalize atN bs k=u0 at *
     generalize atN bs (k+3)=u1 at *
     generalize atN bs (k+4)=u2 at *
     generalize kk k=kx at *
     generalize bb k=bx at *
     obtain ⟨o0,o1,o2,o3,o4,o5,o6,o7,o8,o9,o10,o11⟩:=HBK.out.cells
     have lg:=heap_lt0 HBK.out
     have lg0:=heap_lt0 HX0r.out
     go_wp2_with fail
     refine HA0.out.mono ?_
     rintro e w' ⟨rfl,rfl⟩
     go_upto_region 10 with fail
     clear x0 x1 x2 x3 x5 x6 x7 x8 x9 x10 x11 hlt y1 y2 y3 hn2 hdk hq3
     generalize hB1:upT b cc kk bb (k+1)=B1 at *
     have HB1E:=Lib.hid hB1
     clear hB1
     go_cut [8,9] (fun p u w'=>RunCut wr B1 (.bool true) p u w')
     case first =>
      have hD:=Below.refl wr.heap.size wr
      have hdr:wr.heap.size≤wr.drew.heap.size:=Nat.le_refl _
      go_wp2_with fail
      go_region_held3 (fun w'=>Below wr.heap.size wr w'∧∀b o,b<wr.heap.size→w'.cell? ⟨b,o,none⟩=wr.cell? ⟨b,o,none⟩)
       (first|with_reducible exact ⟨hD,(bcell hD).1⟩|with_reducible exact ⟨hD.drew,(bcell hD.drew).1⟩|(refine ⟨?_,(bcell ?_).1⟩ <;> (repeat (first|with_reducible exact hD|with_reducible exact hD.drew|with_reducible refine below_new ?_ _|with_reducible refine Below.drew ?_|with_reducible refine Below.setCell ?_ (by simp only;omega) _))))
       (first
        | (go_at_call 22;(first|(with_reducible refine (HA1.out _ (by first|with_reducible exact hD|with_reducible exact hD.drew|with_reducible exact below_new hD _|with_reducible exact (below_new hD _).drew|with_reducible exact below_new hD.drew _|with_reducible exact (below_new hD.drew _).drew)).mono ?_)|(with_reducible refine (HA2.out _ (by first|with_reducible exact hD|with_reducible exact hD.drew|with_reducible exact below_new hD _|with_reducible exact (below_new hD _).drew|with_reducible exact below_new hD.drew _|with_reducible exact (below_new hD.drew _).drew)).mono ?_));rintro e w' ⟨rfl,rfl⟩)
        | (go_at_call 23;(with_reducible refine (HUC.out _ (BoardRd.below HRK.out (by first|with_reducible exact hD|with_reducible exact hD.drew|with_reducible exact below_new hD _|with_reducible exact (below_new hD _).drew|with_reducible exact below_new hD.drew _|with_reducible exact (below_new hD.drew _).drew))).mono ?_);rintro e wk ⟨R,rfl,f,bw⟩;have HFq:=Lib.hid f;have HBq:=Lib.hid bw;have hD2:=below_tr (a:=wr) (by first|with_reducible exact hD|with_reducible exact hD.drew|with_reducible exact below_new hD _|with_reducible exact (below_new hD _).drew|with_reducible exact below_new hD.drew _|with_reducible exact (below_new hD.drew _).drew) bw;have hsz:=hD2.size;have hsz2:=bw.size;(try simp only [World.size_drew] at hsz2);(try simp only [World.size_alloc] at hsz2);(try have hlt2:=Nat.lt_of_succ_le hsz2);obtain ⟨hcc,hff⟩:=bcell bw;clear bw f;replace hD:=hD2))
      ·go_wp2_with fail
       go_meet
       exact cutA hD HFq.out (Nat.le_refl _) (Nat.le_refl _)
      all_goals
       go_wp2_with fail
       go_meet
       exact cutC hD HFq.out HBq.out (Nat.le_refl _)
     obtain ⟨w6,g6,R6,lo6,hi6,rfl,rfl,hbk6,hg6,hsp6,hlo6,hhi6,hF6,hD6,rfl⟩:=hcut
     clear o0 o1 o2 o3 o4 o5 o6 o7 o8 o9 o10 o11 x4 hrowr hke hbbe a1 a2
     have HF6:=Lib.hid hF6
     have HK6:=Lib.hid hbk6
     have HB6:=Lib.hid (HBK.out.tr hD6)
     have HD6:=Lib.hid (below_tr HBe.out hD6)
     clear hF6 hbk6 hD6
     obtain ⟨x0,x1,x2,x3,x4,x5,x6,x7,x8,x9,x10,x11⟩:=HK6.out.cells
     obtain ⟨o0,o1,o2,o3,o4,o5,o6,o7,o8,o9,o10,o11⟩:=HB6.out.cells
     have yo:=HB6.out.soft
     have lo:=heap_lt0 HB6.out
     go_wp2_with fail
     clear o0 o1 o2 o3 o4 o5 o6 o7 o8 o9 o10 o11 x0 x1 x2 x3 x4 x5 x6 x7 x8 x9 x10 x11 yo lo
     generalize hWE:World.setCell _ _ _=WE
     obtain ⟨e1,e2,e3,e4⟩:=fin12 hWE HB6.out HD6.out (by omega)
     clear hWE
     go_roundw
     case rel=>exact ⟨k+1,R6,by have:=HLT.out;omega,by go_num,by rw [HNY.out] <;> go_num,by rw [HB1E.out];exact e1,.inr ⟨lo6,hi6,by rw [HB1E.out];exact (HF6.out.chg e4 (.inr (by omega))).toO (.inl (by omega))⟩,e3⟩
     case measure=>simp [intOf];omega
    | false =>
     have hm2:((atN bs k).tmod 2==0)=false:=by rw [hc] at hck;have h:=of_decide_eq_false hck.symm;simp;exact h
     have hup:=HTN.out k (by rw [HFL.out];exact hlt) hc
     have HUP:=Lib.hid hup
     have HNY:Hid (flN cc (k+1)=flN cc k):=by show _=_;rw [HNS.out,if_neg (by rw [hc];decide)];rfl
     clear hck hup hbk hst hbe
     generalize atN bs k=u0 at *
     go_wp2_with fail
     refine HA0.out.mono ?_
     rintro e w' ⟨rfl,rfl⟩
     go_wp2_with fail
     go_roundw
     case rel=>exact ⟨k+1,s',by omega,by go_num,by rw [HNY.out],by rw [←HUP.out];exact HBK.out,by rw [←HUP.out];exact HST.out,HBe.out⟩
     case measure=>simp [intOf];omega
   ·have hkn:k=tiles b.dev:=by omega
    subst hkn
    have hdk:decide ((tiles b.dev:Int)<(tiles b.dev:Int))=false:=by simp
    obtain ⟨hs1,hs2,hs3⟩:=HTS2.out
    replace HW:=HWr
    replace HP:=Lib.hid (HP.out.below HBe.out)
    replace HX0:=HX0r
    replace HR0:=Lib.hid (BoardRd.below HR0.out HBe.out)
    have HSP:=Lib.hid (bk_sp HGD.out.bk ps)
    have HNL:=Lib.hid (spN_len HGD.out.bk HPO.out)
    clear hbk hst hbe hlt hk
    generalize upT b cc kk bb (tiles b.dev)=U at *
    generalize flN cc (tiles b.dev)=cnt at *
    obtain ⟨o0,o1,o2,o3,o4,o5,o6,o7,o8,o9,o10,o11⟩:=HBK.out.cells
    go_wp2_with fail
    clear o0 o1 o2 o3 o4 o5 o6 o7 o8 o9 o10 o11 x0 x1 x2 x3 x4 x5 x6 x7 x8 x9 x10 x11
    refine (scrubBoard_any U s' _ HRK.out (by omega) y4 (by omega)).mono ?_
    rintro e w9 ⟨R3,he,f3,b3⟩
    rw [hs1,hs2,hs3] at he
    rw [hs1] at f3
    subst he
    have hs3:=b3.size
    have hb3:Below w9.heap.size w9 (w9.alloc (.cells (bdArr (b) R3) 31)):=below_new (Below.refl _ _) _
    have hbb3:=below_tr b3 hb3
    have HX3:Hid (BkAt (w9.alloc (.cells (bdArr (b) R3) 31)) w9.heap.size (b) R3):=heap_new _ _
    have HR3:=Lib.hid (BoardRd.below f3.rd hb3)
    have hgb3:w9.heap.size<(w9.alloc (.cells (bdArr (b) R3) 31)).heap.size:=by simp
    replace HW:=Lib.hid (below_tr HW.out hbb3)
    replace HP:=Lib.hid (HP.out.below hbb3)
    replace HX0:=Lib.hid (HX0.out.tr hbb3)
    replace HR0:=Lib.hid (BoardRd.below HR0.out hbb3)
    obtain ⟨x0,x1,x2,x3,x4,x5,x6,x7,x8,x9,x10,x11⟩:=HX3.out.cells
    go_wp2_with fail
    generalize hW3:(w9.alloc (.cells (bdArr (b) R3) 31))=w10 at *
    generalize hg3:w9.heap.size=g3 at *
    clear hW3 hg3 hb3 hbb3 b3 f3 hs3
    clear x0 x1 x2 x3 x4 x5 x6 x7 x8 x9 x10 x11
    have hst3:=HR3.out.state.1
    have hst0:=HR0.out.state.1
    simp only at hst0
    refine (stepBoard_any b R3 PA (tiles b.dev) pc ps _ HR3.out HP.out hz1 (by omega) hz3 (by omega)).mono ?_
    rintro e w11 ⟨R4,NA,nn,nc,rfl,md,f4,o4,_,b4⟩
    obtain ⟨p1,p2,p3⟩:=bk_small HSP.out
    have hnn:nn=tiles b.dev:=by rw [←o4.ints.1];exact HNL.out
    subst hnn
    have HON:=Lib.hid o4.ints
    clear o4
    have hs4:=b4.size
    have hb4:Below w11.heap.size w11 (w11.alloc (.cells (bdArr (spB b ps) R4) 31)):=below_new (Below.refl _ _) _
    have hbb4:=below_tr b4 hb4
    have HX4:Hid (BkAt (w11.alloc (.cells (bdArr (spB b ps) R4) 31)) w11.heap.size (spB b ps) R4):=heap_new _ _
    have HR4:=Lib.hid (BoardRd.below f4.rd hb4)
    have hgb4:w11.heap.size<(w11.alloc (.cells (bdArr (spB b ps) R4) 31)).heap.size:=by simp
    replace HW:=Lib.hid (below_tr HW.out hbb4)
    replace HP:=Lib.hid (HP.out.below hbb4)
    replace HX0:=Lib.hid (HX0.out.tr hbb4)
    replace HX3:=Lib.hid (HX3.out.tr hbb4)
    replace HR0:=Lib.hid (BoardRd.below HR0.out hbb4)
    replace HR3:=Lib.hid (BoardRd.below HR3.out hbb4)
    replace HON:=Lib.hid (HON.out.below hb4)
    obtain ⟨x0,x1,x2,x3,x4,x5,x6,x7,x8,x9,x10,x11⟩:=HX0.out.cells
    go_wp2_with fail
    generalize hW4:(w11.alloc (.cells (bdArr (spB b ps) R4) 31))=w12 at *
    generalize hg4:w11.heap.size=g4 at *
    clear hW4 hg4 hb4 hbb4 b4 f4 hs4
    clear x0 x1 x2 x3 x4 x5 x6 x7 x8 x9 x10 x11
    refine (sstepBoard_any b _ PA (tiles b.dev) pc ps _ HR0.out HP.out hz1 (by simp only;omega) hz3 (by omega)).mono ?_
    rintro e w13 ⟨R5,MA,nm,mc,rfl,md5,f5,o5,_,b5⟩
    have hnm:nm=tiles b.dev:=by rw [←o5.ints.1];exact HNL.out
    subst hnm
    have HOM:=Lib.hid o5.ints
    clear o5
    have hs5:=b5.size
    have hb5:Below w13.heap.size w13 (w13.alloc (.cells (bdArr (spB b ps) R5) 31)):=below_new (Below.refl _ _) _
    have hbb5:=below_tr b5 hb5
    have HX5:Hid (BkAt (w13.alloc (.cells (bdArr (spB b ps) R5) 31)) w13.heap.size (spB b ps) R5):=heap_new _ _
    have HR5:=Lib.hid (BoardRd.below f5.rd hb5)
    have hgb5:w13.heap.size<(w13.alloc (.cells (bdArr (spB b ps) R5) 31)).heap.size:=by simp
    replace HW:=Lib.hid (below_tr HW.out hbb5)
    replace HP:=Lib.hid (HP.out.below hbb5)
    replace HX0:=Lib.hid (HX0.out.tr hbb5)
    replace HX3:=Lib.hid (HX3.out.tr hbb5)
    replace HX4:=Lib.hid (HX4.out.tr hbb5)
    replace HR0:=Lib.hid (BoardRd.below HR0.out hbb5)
    replace HR3:=Lib.hid (BoardRd.below HR3.out hbb5)
    replace HR4:=Lib.hid (BoardRd.below HR4.out hbb5)
    replace HON:=Lib.hid (HON.out.below hbb5)
    replace HOM:=Lib.hid (HOM.out.below hb5)
    generalize spN b ps=oo at *
    generalize spB b ps=X at *
    obtain ⟨x0,x1,x2,x3,x4,x5,x6,x7,x8,x9,x10,x11⟩:=HX0.out.cells
    obtain ⟨z0,z1,z2,z3,z4,z5,z6,z7,z8,z9,z10,z11⟩:=HX3.out.cells
    obtain ⟨u0,u1,u2,u3,u4,u5,u6,u7,u8,u9,u10,u11⟩:=HX4.out.cells
    obtain ⟨v0,v1,v2,v3,v4,v5,v6,v7,v8,v9,v10,v11⟩:=HX5.out.cells
    go_wp2_with fail
    generalize hW5:(w13.alloc (.cells (bdArr (X) R5) 31))=w14 at *
    generalize hg5:w13.heap.size=g5 at *
    clear hW5 hg5 hb5 hbb5 b5 f5 hs5
    clear x0 x1 x2 x3 x4 x5 x6 x7 x8 x9 x10 x11 z0 z1 z2 z3 z4 z5 z6 z7 z8 z9 z10 z11 u0 u1 u2 u3 u4 u5 u6 u7 u8 u9 u10 u11 v0 v1 v2 v3 v4 v5 v6 v7 v8 v9 v10 v11
    refine (sameBoard_same b R3 _ _ HR3.out HR0.out hz1 (by omega) hz3).mono ?_
    rintro e w15 ⟨rfl,b15⟩
    replace HW:=Lib.hid (below_tr HW.out b15)
    replace HP:=Lib.hid (HP.out.below b15)
    replace HX4:=Lib.hid (HX4.out.tr b15)
    replace HX5:=Lib.hid (HX5.out.tr b15)
    replace HR4:=Lib.hid (BoardRd.below HR4.out b15)
    replace HR5:=Lib.hid (BoardRd.below HR5.out b15)
    replace HON:=Lib.hid (HON.out.below b15)
    replace HOM:=Lib.hid (HOM.out.below b15)
    clear b15
    obtain ⟨u0,u1,u2,u3,u4,u5,u6,u7,u8,u9,u10,u11⟩:=HX4.out.cells
    obtain ⟨v0,v1,v2,v3,v4,v5,v6,v7,v8,v9,v10,v11⟩:=HX5.out.cells
    go_wp2_with fail
    clear u0 u1 u2 u3 u4 u5 u6 u7 u8 u9 u10 u11 v0 v1 v2 v3 v4 v5 v6 v7 v8 v9 v10 v11
    refine (sameInts_any NA MA (tiles b.dev) (tiles b.dev) nc mc oo oo _ HON.out HOM.out (by omega)).mono ?_
    rintro e w16 ⟨he,b16⟩
    rw [show decide (oo=oo)=true from decide_eq_true rfl] at he
    subst he
    replace HW:=Lib.hid (below_tr HW.out b16)
    replace HP:=Lib.hid (HP.out.below b16)
    replace HX4:=Lib.hid (HX4.out.tr b16)
    replace HX5:=Lib.hid (HX5.out.tr b16)
    replace HR4:=Lib.hid (BoardRd.below HR4.out b16)
    replace HR5:=Lib.hid (BoardRd.below HR5.out b16)
    clear b16
    obtain ⟨u0,u1,u2,u3,u4,u5,u6,u7,u8,u9,u10,u11⟩:=HX4.out.cells
    obtain ⟨v0,v1,v2,v3,v4,v5,v6,v7,v8,v9,v10,v11⟩:=HX5.out.cells
    go_wp2_with fail
    clear u0 u1 u2 u3 u4 u5 u6 u7 u8 u9 u10 u11 v0 v1 v2 v3 v4 v5 v6 v7 v8 v9 v10 v11
    refine (sameBoard_same X R4 R5 _ HR4.out HR5.out (by omega) (by omega) (by omega)).mono ?_
    rintro e w17 ⟨rfl,b17⟩
    have HB17:=Lib.hid b17
    clear b17
    go_wp2_with fail
    go_ret
    exact ⟨rfl,below_tr HW.out HB17.out⟩
 ·have d:decide ((n:Int)>1048576)=true:=by simp;omega
  go_enter Tryz.func6,Tryz.ntmps6
  go_wp2_with (go_at_call 9;refine (big_any _ _ _ _).mono ?_;rintro e w' ⟨rfl,rfl⟩)
  go_ret
  exact ⟨rfl,Below.refl _ _⟩
end Go.Proofs.YtbnfdhidgdfbeaaGreat
