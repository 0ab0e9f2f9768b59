/- ScrubFrames: the program's and the reference's answers are one. FlipBit and FlipFrame: the program's and the reference's answers are one. BoardOk: whether a board is valid: the program. What the operations of a board compute. -/
import Derived.Deep.DrawnRows
import Derived.Test.YtbnfdhidgdfbeaaGreatBrd
import Derived.Test.YtbnfdhidgdfbeaaGreatCopies
import Derived.Test.YtbnfdhidgdfbeaaGreatData
import Derived.Test.YtbnfdhidgdfbeaaGreatEmu
import Derived.Test.YtbnfdhidgdfbeaaGreatEsPure
import Derived.Test.YtbnfdhidgdfbeaaGreatNbs
import Derived.Test.YtbnfdhidgdfbeaaGreatRq
import Derived.Test.YtbnfdhidgdfbeaaGreatValS2
namespace Go.Proofs.YtbnfdhidgdfbeaaGreat
set_option maxRecDepth 100000
open Go.RowKit

/-- A list, mapped up to a place. -/
def mapTo {α:Type} (g:α→α) (xs:List α) (k:Nat):List α:=(xs.take k).map g++xs.drop k
theorem mapTo_zero {α:Type} (g:α→α) (xs:List α):mapTo g xs 0=xs:=by simp [mapTo]
theorem mapTo_full {α:Type} (g:α→α) {xs:List α} {k:Nat} (h:xs.length≤k):mapTo g xs k=xs.map g:=by simp [mapTo,List.take_of_length_le h,List.drop_of_length_le h]
theorem mapTo_get {α:Type} (g:α→α) {xs:List α} {k:Nat} (h:k<xs.length):(mapTo g xs k)[k]?=xs[k]?:=by
 rw [mapTo,List.getElem?_append_right (by simp;omega)]
 simp [show min k xs.length=k by omega]
theorem mapTo_set {α:Type} (g:α→α) {xs:List α} {k:Nat} (d:α) (h:k<xs.length):(mapTo g xs k).set k (g (xs[k]?.getD d))=mapTo g xs (k+1):=by
 have hl:((xs.take k).map g).length=k:=by simp;omega
 rw [mapTo,List.set_append,if_neg (by omega),hl,Nat.sub_self,List.drop_eq_getElem_cons h,List.set_cons_zero,mapTo,List.take_succ_eq_append_getElem h,List.getElem?_eq_getElem h]
 simp only [Option.getD_some,List.map_append,List.map_cons,List.map_nil,List.append_assoc,List.cons_append,List.nil_append]
theorem map_take_succ {α β:Type} (g:α→β) {xs:List α} {k:Nat} (d:α) (h:k<xs.length):(xs.take (k+1)).map g=(xs.take k).map g++[g (xs[k]?.getD d)]:=by
 rw [List.take_succ_eq_append_getElem h,List.map_append,List.getElem?_eq_getElem h]
 rfl

def repC (c:Int):Int:=(repW c).1
def cntTo (s:Int) (f:List Int):Nat→Nat
 | 0=>0
 | k+1=>cntTo s f k+if (repW (f[k]?.getD 0)).2=s then 1 else 0
def cnt2To (s:Int) (fs:List (List Int)):Nat→Nat
 | 0=>0
 | k+1=>cnt2To s fs k+cntTo s (fs[k]?.getD []) (fs[k]?.getD []).length
def scrubRow (f:List Int):List Int:=f.map repC
def scrubF (d:Dev) (fs:List (List Int)):List (List Int):=if framesOk d fs=true then fs.map scrubRow else []
def scrubN (d:Dev) (fs:List (List Int)) (s:Int):Int:=if framesOk d fs=true then ((cnt2To s fs fs.length:Nat):Int) else 0
theorem cntTo_le (s:Int) (f:List Int) (k:Nat):cntTo s f k≤k:=by
 induction k with
 | zero=>simp [cntTo]
 | succ k ih=>rw [cntTo];split <;> omega
theorem cnt2To_le {d:Dev} {fs:List (List Int)} (h:framesOk d fs=true) (s:Int) (k:Nat):cnt2To s fs k≤11 * k:=by
 induction k with
 | zero=>simp [cnt2To]
 | succ k ih =>
  rw [cnt2To]
  have h1:=cntTo_le s (fs[k]?.getD []) (fs[k]?.getD []).length
  have:(fs[k]?.getD []).length≤11:=by
   rcases Nat.lt_or_ge k fs.length with hj|hj
   ·have:=(frames_in h hj).2
    have:=fwI_bd (framesOk_iff h).1
    omega
   ·rw [List.getElem?_eq_none hj];simp
  omega
theorem repW_st (c:Int):(repW c).2=0∨(repW c).2=1∨(repW c).2=2:=by
 unfold repW
 split
 ·simp
 ·unfold decW decN
  repeat' split
  all_goals simp
theorem size2_map {fs:List (List Int)} (g:List Int→List Int) (hg:∀f,(g f).length=f.length):size2 (fs.map g)=size2 fs:=by
 unfold size2
 rw [List.length_map,sizeTo_congr (yss:=fs)]
 intro j
 rw [List.getElem?_map]
 cases fs[j]? with
 | none =>
  have:=hg []
  simp
 | some x=>simp [hg]
theorem scrubF_le {d:Dev} {fs:List (List Int)} {M:Nat} (h:size2 fs≤M):size2 (scrubF d fs)≤M:=by
 unfold scrubF
 split
 ·rw [size2_map _ fun f=>by simp [scrubRow]];exact h
 ·simp [size2,sizeTo]
set_option maxHeartbeats 2000000 in
theorem scrubFrames_any (d:Dev) (A:Option Addr) (n c:Nat) (fs:List (List Int)) (w:World) (hA:Rows2 w A n fs) (hz:size2 fs≤1099511627776) :
  Calls Tryz.prog 64 #[.agg #[.int .i64 d.W,.int .i64 d.H,.int .i64 d.T,.int .i64 d.R],.slice A n c] w fun e w'=>∃A' n' c',e = .returned (.tuple #[.slice A' n' c',.int .i64 (scrubN d fs 1),.int .i64 (scrubN d fs 2)])∧Own2 w.heap.size w'.heap.size w' A' n' c' (scrubF d fs)∧Below w.heap.size w w':=by
 have hB0:Below w.heap.size w (w.alloc (.cells #[.int .i64 d.W,.int .i64 d.H,.int .i64 d.T,.int .i64 d.R] 25)):=below_new (Below.refl _ _) _
 have hX:=hA.1
 obtain ⟨hn,hrow⟩:=size2_bd hX hz
 have HX:=Lib.hid hX
 have HI:=Lib.hid hA
 clear hA hX hrow
 go_enter Tryz.func64,Tryz.ntmps64
 go_wp2_with fail
 refine (framesOk_any d A n c fs _ (HI.out.below hB0) hz).mono ?_
 rintro e w1 ⟨rfl,b1⟩
 have hs1:=b1.size
 simp only [World.size_alloc] at hs1
 have B1:=Lib.hid (below_tr hB0 b1)
 clear b1
 cases hf:framesOk d fs with
 | false =>
  have HF:=Lib.hid hf
  clear hf
  go_wp2_with fail
  go_ret3
  exact ⟨none,0,0,by rw [scrubN,scrubN,HF.out];rfl,by rw [scrubF,HF.out];exact Own2.nil,B1.out⟩
 | true =>
  have hfb:=fwI_bd (framesOk_iff hf).1
  obtain ⟨F,hF⟩:∃F:Nat,fwI d=(F:Int):=⟨(fwI d).toNat,by omega⟩
  rw [hF] at hfb
  have HFW:=Lib.hid hF
  have HF:=Lib.hid hf
  clear hf hF
  go_wp2_with fail
  refine (copyLists_any A n c fs _ (HI.out.below B1.out) hz).mono ?_
  rintro e w2 ⟨A2,c2,rfl,o2,b2⟩
  have hs2:=b2.size
  have O2:=Lib.hid (o2.widen (lo':=w.heap.size) (hi':=w2.heap.size) (by omega) (Nat.le_refl _))
  have B2:=Lib.hid (below_tr B1.out b2)
  clear o2 b2
  go_wp2_with fail
  generalize hq:w2.heap.size=hi at *
  have HQ:=Lib.hid hq
  clear hq
  go_loopw [8,9,24] (fun v1 v2 i wr=>∃k:Nat,k≤n∧i = .int .i64 k∧v1 = .int .i64 ((cnt2To 1 fs k:Nat):Int)∧v2 = .int .i64 ((cnt2To 2 fs k:Nat):Int)∧Own2 w.heap.size hi wr A2 n c2 (mapTo scrubRow fs k)∧Below w.heap.size w wr∧hi≤wr.heap.size) (fun _ _ i _=>n - (intOf i).toNat)
  case atStart=>exact ⟨0,Nat.zero_le _,rfl,rfl,rfl,by rw [mapTo_zero];exact O2.out,B2.out,by rw [HQ.out];exact Nat.le_refl _⟩
  case round =>
   obtain ⟨k,hk,rfl,rfl,rfl,ho,hbe,hhi⟩:=hrel
   have HE:=Lib.hid hbe
   have hk1:=cnt2To_le HF.out 1 k
   have hk2:=cnt2To_le HF.out 2 k
   by_cases hlt:k<n
   ·obtain ⟨b,A1,m1,c1,rfl,hck,hfz,o1,l1,hup,hne,hb1,hb2,hb3⟩:=ho.rowX hlt
    rw [mapTo_get _ (by rw [HX.out];exact hlt)] at o1
    have hfr:=frames_in HF.out (j:=k) (by rw [HX.out];exact hlt)
    have hm1:m1=F:=by have:=hfr.2;rw [o1.len,HFW.out] at this;omega
    subst hm1
    have HIN:=Lib.hid hfr.1
    have HUP:=Lib.hid hup
    have O1:=Lib.hid o1
    have L1:=Lib.hid l1
    have HNE:=Lib.hid hne
    have HXF:=Lib.hid o1.len
    have HC1:=Lib.hid (cnt2To.eq_2 1 fs k)
    have HC2:=Lib.hid (cnt2To.eq_2 2 fs k)
    have HMS:=Lib.hid (mapTo_set scrubRow (xs:=fs) (k:=k) [] (by rw [HX.out];exact hlt))
    have HCK:=Lib.hid hck
    clear hfr hup o1 l1 hne ho hbe hfz
    generalize fs[k]?.getD []=f at *
    go_wp2_with fail
    clear hck
    go_loopw [8,9,31] (fun v1 v2 i wq=>∃j:Nat,j≤m1∧i = .int .i64 j∧v1 = .int .i64 ((cnt2To 1 fs k+cntTo 1 f j:Nat):Int)∧v2 = .int .i64 ((cnt2To 2 fs k+cntTo 2 f j:Nat):Int)∧Own w.heap.size wq A1 m1 c1 (mapTo repC f j)∧wr.grownBy wq (A1.map (·.block))) (fun _ _ i _=>m1 - (intOf i).toNat)
    case atStart=>exact ⟨0,Nat.zero_le _,rfl,rfl,rfl,by rw [mapTo_zero];exact O1.out,grownBy_refl _ _⟩
    case round =>
     obtain ⟨j,hj,rfl,rfl,rfl,ho2,hg⟩:=hrel
     have HO2:=Lib.hid ho2
     have HG:=Lib.hid hg
     have hj1:=cntTo_le 1 f j
     have hj2:=cntTo_le 2 f j
     by_cases hlj:j<m1
     ·obtain ⟨g1,cur,rfl,hg1,hg2,_⟩:=ho2.block (by omega)
      obtain ⟨hcj,hfj⟩:=ho2.cellAt hlj
      have hne':g1≠b:=HNE.out _ rfl
      have hckb:wr.cell? ⟨b,k,none⟩=some (.slice (some ⟨g1,0,none⟩) m1 c1):=(World.cell?_of_block (a:=⟨b,k,none⟩) (hg.block b hb3 (by simpa using fun e=>hne' e.symm))).trans HCK.out
      rw [mapTo_get _ (by rw [HXF.out];exact hlj)] at hcj
      have hsq:=hg.size
      have HMS2:=Lib.hid (mapTo_set repC (xs:=f) (k:=j) 0 (by rw [HXF.out];exact hlj))
      have HD1:=Lib.hid (cntTo.eq_2 1 f j)
      have HD2:=Lib.hid (cntTo.eq_2 2 f j)
      clear ho2 hg
      generalize f[j]?.getD 0=x at *
      go_wp2_with fail
      refine (repairWord_any x _).mono ?_
      rintro e w3 ⟨rfl,b3⟩
      have O3:=Lib.hid (HO2.out.below b3)
      have G3:=Lib.hid (grownBy_trans HG.out (grownBy_of_below b3 _))
      obtain ⟨hcj3,hfj3⟩:=O3.out.cellAt hlj
      have hckb3:=(b3.cell (p:=⟨b,k,none⟩) (by simp only;omega)).trans hckb
      clear b3 hcj hfj hckb
      have hst:=repW_st x
      have HRC:Hid (repC x=(repW x).1):=rfl
      generalize (repW x).1=y at *
      generalize (repW x).2=s at *
      rcases hst with h|h|h
      ·subst h
       go_wp2_with fail
       go_roundw
       case rel=>exact ⟨j+1,by omega,by go_num,by rw [HD1.out];simp,by rw [HD2.out];simp,by rw [←HMS2.out,HRC.out];exact O3.out.stored hlj y,grownBy_store G3.out _ _⟩
       case measure=>simp [intOf];omega
      ·subst h
       go_wp2_with fail
       go_roundw
       case rel=>exact ⟨j+1,by omega,by go_num,by rw [HD1.out];simp only [if_true];go_num,by rw [HD2.out];simp,by rw [←HMS2.out,HRC.out];exact O3.out.stored hlj y,grownBy_store G3.out _ _⟩
       case measure=>simp [intOf];omega
      ·subst h
       go_wp2_with fail
       go_roundw
       case rel=>exact ⟨j+1,by omega,by go_num,by rw [HD1.out];simp,by rw [HD2.out];simp only [if_true];go_num,by rw [←HMS2.out,HRC.out];exact O3.out.stored hlj y,grownBy_store G3.out _ _⟩
       case measure=>simp [intOf];omega
     ·have hjn:j=m1:=by omega
      subst hjn
      go_wp2_with fail
      go_roundw
      case rel=>exact ⟨k+1,by omega,by go_num,by rw [HC1.out,HXF.out],by rw [HC2.out,HXF.out],
       by rw [←HMS.out];have:=HUP.out _ _ HG.out HO2.out;rw [mapTo_full repC (xs:=f) (by rw [HXF.out];exact Nat.le_refl _)] at this;exact this,HE.out.grown HG.out HE.out.size (fun q hq=>by
        cases A1 with
        | none=>cases hq
        | some a=>injection hq with hq;subst hq;exact (L1.out a rfl).1),by have:=HG.out.size;omega⟩
      case measure=>simp [intOf];omega
   ·have hkn:k=n:=by omega
    subst hkn
    go_wp2_with fail
    go_ret3
    have e1:∀s,scrubN d fs s=((cnt2To s fs k:Nat):Int):=fun s=>by rw [scrubN,HF.out,if_pos rfl,HX.out]
    refine ⟨A2,k,c2,by rw [e1,e1];rfl,?_,HE.out⟩
    ·rw [scrubF,HF.out,if_pos rfl]
     have:=ho.widen (Nat.le_refl _) hhi
     rwa [mapTo_full _ (by rw [HX.out];exact Nat.le_refl _)] at this
set_option maxHeartbeats 2000000 in
theorem sscrubFrames_any (d:Dev) (A:Option Addr) (n c:Nat) (fs:List (List Int)) (w:World) (hA:Rows2 w A n fs) (hz:size2 fs≤1099511627776) :
  Calls Tryz.prog 146 #[.agg #[.int .i64 d.W,.int .i64 d.H,.int .i64 d.T,.int .i64 d.R],.slice A n c] w fun e w'=>∃A' n' c',e = .returned (.tuple #[.slice A' n' c',.int .i64 (scrubN d fs 1),.int .i64 (scrubN d fs 2)])∧Own2 w.heap.size w'.heap.size w' A' n' c' (scrubF d fs)∧Below w.heap.size w w':=by
 have hB0:Below w.heap.size w (w.alloc (.cells #[.int .i64 d.W,.int .i64 d.H,.int .i64 d.T,.int .i64 d.R] 25)):=below_new (Below.refl _ _) _
 have hX:=hA.1
 obtain ⟨hn,hrow⟩:=size2_bd hX hz
 have HX:=Lib.hid hX
 have HI:=Lib.hid hA
 clear hA hX hrow
 go_enter Tryz.func146,Tryz.ntmps146
 go_wp2_with fail
 refine (sframesOk_any d A n c fs _ (HI.out.below (below_new hB0 _)) hz).mono ?_
 rintro e w1 ⟨rfl,b1⟩
 have hs1:=b1.size
 simp only [World.size_alloc] at hs1
 have N1:=Lib.hid ((Own2.new0 (w:=w.alloc (.cells #[.int .i64 d.W,.int .i64 d.H,.int .i64 d.T,.int .i64 d.R] 25)) (g:=w.heap.size+1) (by simp)).below b1)
 have B1:=Lib.hid (below_tr (below_new hB0 _) b1)
 clear b1
 cases hf:framesOk d fs with
 | false =>
  have HF:=Lib.hid hf
  clear hf
  go_wp2_with fail
  go_ret3
  exact ⟨_,0,0,by rw [scrubN,scrubN,HF.out];rfl,by rw [scrubF,HF.out];exact N1.out.widen (by omega) (by simp;omega),B1.out⟩
 | true =>
  have hfb:=fwI_bd (framesOk_iff hf).1
  obtain ⟨F,hF⟩:∃F:Nat,fwI d=(F:Int):=⟨(fwI d).toNat,by omega⟩
  rw [hF] at hfb
  have HFW:=Lib.hid hF
  have HF:=Lib.hid hf
  clear hf hF
  obtain ⟨_,hAr⟩:=HI.out
  go_wp2_with fail
  go_loopw [7,8,9,10] (fun v v1 v2 i wr=>∃(k:Nat) (A':Option Addr) (c':Nat),k≤n∧i = .int .i64 k∧v1 = .int .i64 ((cnt2To 1 fs k:Nat):Int)∧v2 = .int .i64 ((cnt2To 2 fs k:Nat):Int)∧v = .slice A' k c'∧Own2 w.heap.size wr.heap.size wr A' k c' ((fs.take k).map scrubRow)∧Below w.heap.size w wr) (fun _ _ _ i _=>n - (intOf i).toNat)
  case atStart=>exact ⟨0,_,0,Nat.zero_le _,rfl,rfl,rfl,rfl,by simpa using N1.out.widen (by omega) (by simp;omega),B1.out⟩
  case round =>
   obtain ⟨k,A',c',hk,rfl,rfl,rfl,rfl,ho,hbe⟩:=hrel
   have HO:=Lib.hid ho
   have HE:=Lib.hid hbe
   have hsw:=hbe.size
   have hk1:=cnt2To_le HF.out 1 k
   have hk2:=cnt2To_le HF.out 2 k
   clear ho
   by_cases hlt:k<n
   ·obtain ⟨b,o,rfl,hb,hc⟩:=hAr (by omega)
    obtain ⟨A1,m1,c1,hck,hI1⟩:=hc k hlt
    rw [←hbe.cell (p:=⟨b,o+k,none⟩) hb] at hck
    have hfr:=frames_in HF.out (j:=k) (by rw [HX.out];exact hlt)
    have hm1:m1=F:=by have:=hfr.2;rw [hI1.1,HFW.out] at this;omega
    subst hm1
    have HIN:=Lib.hid hfr.1
    have J1:=Lib.hid (hI1.below hbe)
    have HXF:=Lib.hid hI1.1
    have HC1:=Lib.hid (cnt2To.eq_2 1 fs k)
    have HC2:=Lib.hid (cnt2To.eq_2 2 fs k)
    have HMS:=Lib.hid (map_take_succ scrubRow (xs:=fs) (k:=k) [] (by rw [HX.out];exact hlt))
    have hbw:b<wr.heap.size:=by omega
    have HCK:=Lib.hid hck
    clear hfr hc hI1 hbe
    generalize fs[k]?.getD []=f at *
    go_wp2_with fail
    have N2:=Lib.hid (Own.new0 (w:=wr) (base:=wr.heap.size) (Nat.le_refl _))
    clear hck
    generalize hwq:wr.heap.size=base at *
    have HWQ:=Lib.hid hwq
    have E1:=Lib.hid (below_new (Below.refl wr.heap.size wr) (.cells #[] 3))
    clear hwq
    rw [HWQ.out] at E1
    go_loopw [8,9,11,12] (fun v1 v2 v i wq=>∃(j:Nat) (A2:Option Addr) (c2:Nat),j≤m1∧i = .int .i64 j∧v1 = .int .i64 ((cnt2To 1 fs k+cntTo 1 f j:Nat):Int)∧v2 = .int .i64 ((cnt2To 2 fs k+cntTo 2 f j:Nat):Int)∧v = .slice A2 j c2∧Own base wq A2 j c2 ((f.take j).map repC)∧Below base wr wq) (fun _ _ _ i _=>m1 - (intOf i).toNat)
    case atStart=>exact ⟨0,_,0,Nat.zero_le _,rfl,rfl,rfl,rfl,by simpa using N2.out,E1.out⟩
    case round =>
     obtain ⟨j,A2,c2,hj,rfl,rfl,rfl,rfl,ho2,hbe2⟩:=hrel
     have HO2:=Lib.hid ho2
     have HE2:=Lib.hid hbe2
     have hj1:=cntTo_le 1 f j
     have hj2:=cntTo_le 2 f j
     have hs2:=hbe2.size
     rw [HWQ.out] at hs2
     clear ho2
     by_cases hlj:j<m1
     ·obtain ⟨b3,o3,rfl,hb3,hc3⟩:=J1.out.2 (by omega)
      have hck3:=hc3 j hlj
      rw [←hbe2.cell (p:=⟨b3,o3+j,none⟩) (by rw [←HWQ.out];exact hb3)] at hck3
      have hck:=(hbe2.cell (p:=⟨b,o+k,none⟩) hbw).trans HCK.out
      have HMS2:=Lib.hid (map_take_succ repC (xs:=f) (k:=j) 0 (by rw [HXF.out];exact hlj))
      have HD1:=Lib.hid (cntTo.eq_2 1 f j)
      have HD2:=Lib.hid (cntTo.eq_2 2 f j)
      clear hc3 hbe2
      generalize f[j]?.getD 0=x at *
      go_wp2_with fail
      refine (srepairWord_any x _).mono ?_
      rintro e w3 ⟨rfl,b3⟩
      have hs3:=b3.size
      have O3:=Lib.hid (HO2.out.below b3)
      have E3:=Lib.hid (HE2.out.trans (b3.mono hs2))
      clear b3 hck hck3
      have hst:=repW_st x
      have HRC:Hid (repC x=(repW x).1):=rfl
      generalize (repW x).1=y at *
      generalize (repW x).2=s at *
      rcases hst with h|h|h
      ·subst h
       go_wp2_with (first
        | ((with_reducible refine (l07Bit_t _).mono ?_);rintro e w' ⟨rfl,rfl⟩)
        | ((with_reducible refine (l07Bit_f _).mono ?_);rintro e w' ⟨rfl,rfl⟩)
        | (at_builtin;refine wpList_push rfl _ _ rfl base A2 j c2 ((f.take j).map repC) _ rfl O3.out rfl (by omega) (by omega) E3.out ?_;rintro g4 cap w4 o4 b4 gr4 hat4))
       go_roundw
       case rel=>exact ⟨j+1,_,_,by omega,by go_num,by rw [HD1.out];simp,by rw [HD2.out];simp,rfl,by rw [HMS2.out,HRC.out];exact o4,b4⟩
       case measure=>simp [intOf];omega
      ·subst h
       go_wp2_with (first
        | ((with_reducible refine (l07Bit_t _).mono ?_);rintro e w' ⟨rfl,rfl⟩)
        | ((with_reducible refine (l07Bit_f _).mono ?_);rintro e w' ⟨rfl,rfl⟩)
        | (at_builtin;refine wpList_push rfl _ _ rfl base A2 j c2 ((f.take j).map repC) _ rfl O3.out rfl (by omega) (by omega) E3.out ?_;rintro g4 cap w4 o4 b4 gr4 hat4))
       go_roundw
       case rel=>exact ⟨j+1,_,_,by omega,by go_num,by rw [HD1.out];simp only [if_true];go_num,by rw [HD2.out];simp,rfl,by rw [HMS2.out,HRC.out];exact o4,b4⟩
       case measure=>simp [intOf];omega
      ·subst h
       go_wp2_with (first
        | ((with_reducible refine (l07Bit_t _).mono ?_);rintro e w' ⟨rfl,rfl⟩)
        | ((with_reducible refine (l07Bit_f _).mono ?_);rintro e w' ⟨rfl,rfl⟩)
        | (at_builtin;refine wpList_push rfl _ _ rfl base A2 j c2 ((f.take j).map repC) _ rfl O3.out rfl (by omega) (by omega) E3.out ?_;rintro g4 cap w4 o4 b4 gr4 hat4))
       go_roundw
       case rel=>exact ⟨j+1,_,_,by omega,by go_num,by rw [HD1.out];simp,by rw [HD2.out];simp only [if_true];go_num,rfl,by rw [HMS2.out,HRC.out];exact o4,b4⟩
       case measure=>simp [intOf];omega
     ·have hjn:j=m1:=by omega
      subst hjn
      have hck:=(hbe2.cell (p:=⟨b,o+k,none⟩) hbw).trans HCK.out
      have OO:=Lib.hid (HO.out.below (hbe2.mono (by rw [HWQ.out];exact Nat.le_refl _)))
      clear hbe2
      go_wp2_with (at_builtin;refine wpList_push2 rfl _ _ rfl w.heap.size base A' k c' ((fs.take k).map scrubRow) base A2 j c2 _ rfl OO.out HO2.out rfl (by omega) (by omega) (by omega) (by omega) (by omega) (HE.out.trans (HE2.out.mono (by omega))) ?_;rintro g cap w5 o5 b5)
      go_roundw
      case rel=>exact ⟨k+1,_,_,by omega,by go_num,by rw [HC1.out,HXF.out];go_num,by rw [HC2.out,HXF.out];go_num,rfl,by rw [HMS.out];have:=o5;rwa [List.take_of_length_le (l:=f) (by rw [HXF.out];exact Nat.le_refl _)] at this,b5⟩
      case measure=>simp [intOf];omega
   ·have hkn:k=n:=by omega
    subst hkn
    go_wp2_with fail
    go_ret3
    have e1:∀s,scrubN d fs s=((cnt2To s fs k:Nat):Int):=fun s=>by rw [scrubN,HF.out,if_pos rfl,HX.out]
    refine ⟨_,k,_,by rw [e1,e1];rfl,?_,HE.out⟩
    ·rw [scrubF,HF.out,if_pos rfl]
     have:=HO.out
     rwa [List.take_of_length_le (by rw [HX.out];exact Nat.le_refl _)] at this
end Go.Proofs.YtbnfdhidgdfbeaaGreat

namespace Go.Proofs.YtbnfdhidgdfbeaaGreat
set_option maxRecDepth 100000
open Go.RowKit

def flipBit (code bit:Int):Int:=if (inR code 0 4194303 && inR bit 0 21)=true then bits .xor .i64 code (2 ^ bit.toNat) else code

set_option maxHeartbeats 400000 in
theorem flipBit_any (code bit:Int) (w:World) :
  Calls Tryz.prog 141 #[.int .i64 code,.int .i64 bit] w fun e w'=>e = .returned (.int .i64 (flipBit code bit))∧w=w':=by
 have HF:Hid (flipBit code bit=if (inR code 0 4194303 && inR bit 0 21)=true then bits .xor .i64 code (2 ^ bit.toNat) else code):=rfl
 cases h1:inR code 0 4194303 with
 | false =>
  go_enter Tryz.func141,Tryz.ntmps141
  go_wp2_with (go_at_call 68;refine (inRange_any _ _ _ _).mono ?_;rintro e w' ⟨rfl,rfl⟩)
  go_ret
  exact ⟨ret_int (by rw [HF.out,h1];simp),rfl⟩
 | true =>
  cases h2:inR bit 0 21 with
  | false =>
   go_enter Tryz.func141,Tryz.ntmps141
   go_wp2_with (go_at_call 68;refine (inRange_any _ _ _ _).mono ?_;rintro e w' ⟨rfl,rfl⟩)
   go_ret
   exact ⟨ret_int (by rw [HF.out,h2];simp),rfl⟩
  | true =>
   have hb:=inR_iff.1 h2
   have HW:=Lib.hid (wrap_pow (k:=bit.toNat) (by omega))
   rw [h1,h2] at HF
   obtain ⟨b,rfl⟩:=Int.eq_ofNat_of_zero_le hb.1
   go_enter Tryz.func141,Tryz.ntmps141
   go_wp2_with (go_at_call 68;refine (inRange_any _ _ _ _).mono ?_;rintro e w' ⟨rfl,rfl⟩)
   go_ret
   have e1:=HW.out
   simp only [Int.toNat_natCast] at e1
   exact ⟨ret_int (by rw [HF.out,e1];simp),rfl⟩

set_option maxHeartbeats 400000 in
theorem sflipBit_any (code bit:Int) (w:World) :
  Calls Tryz.prog 180 #[.int .i64 code,.int .i64 bit] w fun e w'=>e = .returned (.int .i64 (flipBit code bit))∧w=w':=by
 have HF:Hid (flipBit code bit=if (inR code 0 4194303 && inR bit 0 21)=true then bits .xor .i64 code (2 ^ bit.toNat) else code):=rfl
 cases h1:inR code 0 4194303 with
 | false =>
  go_enter Tryz.func180,Tryz.ntmps180
  go_wp2_with (go_at_call 119;refine (l01In_any _ _ _ _).mono ?_;rintro e w' ⟨rfl,rfl⟩)
  go_ret
  exact ⟨ret_int (by rw [HF.out,h1];simp),rfl⟩
 | true =>
  cases h2:inR bit 0 21 with
  | false =>
   go_enter Tryz.func180,Tryz.ntmps180
   go_wp2_with (go_at_call 119;refine (l01In_any _ _ _ _).mono ?_;rintro e w' ⟨rfl,rfl⟩)
   go_ret
   exact ⟨ret_int (by rw [HF.out,h2];simp),rfl⟩
  | true =>
   have hb:=inR_iff.1 h2
   have HW:=Lib.hid (wrap_pow (k:=bit.toNat) (by omega))
   rw [h1,h2] at HF
   obtain ⟨b,rfl⟩:=Int.eq_ofNat_of_zero_le hb.1
   go_enter Tryz.func180,Tryz.ntmps180
   go_wp2_with (go_at_call 119;refine (l01In_any _ _ _ _).mono ?_;rintro e w' ⟨rfl,rfl⟩)
   go_ret
   have e1:=HW.out
   simp only [Int.toNat_natCast] at e1
   exact ⟨ret_int (by rw [HF.out,e1];simp),rfl⟩

attribute [local go_sem ↓] Go.wp_at_zero Go.wp_at_succ
def flipOk (d:Dev) (fs:List (List Int)) (t k b:Int):Bool:=framesOk d fs && (inR t 0 ((fs.length:Int) - 1) && (inR k 0 (fwI d - 1) && inR b 0 21))
def flipFrame (d:Dev) (fs:List (List Int)) (t k b:Int):List (List Int) :=
 if flipOk d fs t k b=true then fs.set t.toNat ((fs[t.toNat]?.getD []).set k.toNat (flipBit ((fs[t.toNat]?.getD [])[k.toNat]?.getD 0) b)) else fs

theorem size2_set {fs:List (List Int)} {t:Nat} {f:List Int} (h:t<fs.length→f.length=(fs[t]?.getD []).length):size2 (fs.set t f)=size2 fs:=by
 unfold size2
 rw [List.length_set,sizeTo_congr (yss:=fs)]
 intro j
 rw [List.getElem?_set]
 by_cases hj:t=j
 ·subst hj
  by_cases hl:t<fs.length
  ·simp [hl,h hl]
  ·simp [hl]
 ·simp [hj]
theorem flipFrame_le {d:Dev} {fs:List (List Int)} {t k b:Int} {M:Nat} (h:size2 fs≤M):size2 (flipFrame d fs t k b)≤M:=by
 unfold flipFrame
 split
 ·rw [size2_set (by intro hl;simp)];exact h
 ·exact h

set_option maxHeartbeats 2000000 in
theorem flipFrame_any (d:Dev) (A:Option Addr) (n c:Nat) (fs:List (List Int)) (t k b:Int) (w:World) (hA:Rows2 w A n fs) (hz:size2 fs≤1099511627776) :
  Calls Tryz.prog 63 #[.agg #[.int .i64 d.W,.int .i64 d.H,.int .i64 d.T,.int .i64 d.R],.slice A n c,.int .i64 t,.int .i64 k,.int .i64 b] w fun e w'=>∃A' n' c',e = .returned (.tuple #[.slice A' n' c',.bool (flipOk d fs t k b)])∧Own2 w.heap.size w'.heap.size w' A' n' c' (flipFrame d fs t k b)∧Below w.heap.size w w':=by
 have hX:=hA.1
 have hn:=(size2_bd hX hz).1
 have HX:=Lib.hid hX
 have HI:=Lib.hid hA
 clear hA hX
 go_enter Tryz.func63,Tryz.ntmps63
 go_wp2_with fail
 refine (copyLists_any A n c fs _ (HI.out.below (below_new (Below.refl _ _) _)) hz).mono ?_
 rintro e w1 ⟨A1,c1,rfl,o1,b1⟩
 have hs1:=b1.size
 simp only [World.size_alloc] at hs1
 obtain ⟨hcc,hff⟩:=bcell b1
 have O1:=Lib.hid o1
 have B1:=Lib.hid (below_tr (below_new (Below.refl _ _) _) b1)
 have D1:=Lib.hid b1
 clear o1 b1
 go_wp2_with fail
 refine (framesOk_any d A n c fs _ (HI.out.below B1.out) hz).mono ?_
 rintro e w2 ⟨rfl,b2⟩
 have hs2:=b2.size
 have O2:=Lib.hid (O1.out.below b2)
 have B2:=Lib.hid (below_tr B1.out b2)
 have D2:=Lib.hid (below_tr D1.out b2)
 clear b2 hcc hff
 obtain ⟨hcc,hff⟩:=bcell D2.out
 have hbad:∀(w3:World),flipOk d fs t k b=false→Below w2.heap.size w2 w3→Own2 w.heap.size w3.heap.size w3 A1 n c1 (flipFrame d fs t k b)∧Below w.heap.size w w3:=by
  intro w3 h0 h3
  have h3s:=h3.size
  rw [flipFrame,h0,if_neg (by simp)]
  exact ⟨(O2.out.below h3).widen (by simp) (by omega),below_tr B2.out h3⟩
 have HB:=Lib.hid hbad
 clear hbad
 cases hf:framesOk d fs with
 | false =>
  have HFO:Hid (flipOk d fs t k b=false):=by unfold Hid flipOk;rw [hf];rfl
  clear hf
  go_wp2_with fail
  go_ret2
  exact ⟨A1,n,c1,by simp [HFO.out],HB.out _ HFO.out (Below.refl _ _)⟩
 | true =>
  have hdv:=(framesOk_iff hf).1
  have hfb:=fwI_bd hdv
  obtain ⟨_,_,_,_,ht1,ht2,_⟩:=devOk_bd hdv
  have HF:=Lib.hid hf
  clear hf
  cases h1:inR t 0 ((n:Int) - 1) with
  | false =>
   have HFO:Hid (flipOk d fs t k b=false):=by unfold Hid flipOk;rw [HX.out,h1];simp
   go_wp2_with (go_at_call 68;refine (inRange_any _ _ _ _).mono ?_;rintro e w' ⟨rfl,rfl⟩)
   go_ret2
   exact ⟨A1,n,c1,by simp [HFO.out],HB.out _ HFO.out (Below.refl _ _)⟩
  | true =>
   have h1b:=inR_iff.1 h1
   cases h2:inR k 0 (fwI d - 1) with
   | false =>
    have HFO:Hid (flipOk d fs t k b=false):=by unfold Hid flipOk;rw [h2];simp
    go_wp2_with (first
     | (go_at_call 68;refine (inRange_any _ _ _ _).mono ?_;rintro e w' ⟨rfl,rfl⟩)
     | (go_at_call 115;refine (frameWords_any d _ ht1 ht2).mono ?_;rintro e w3 ⟨rfl,b3⟩;have B3:=Lib.hid b3;clear b3))
    go_ret2
    exact ⟨A1,n,c1,by simp [HFO.out],HB.out _ HFO.out B3.out⟩
   | true =>
    have h2b:=inR_iff.1 h2
    cases h3:inR b 0 21 with
    | false =>
     have HFO:Hid (flipOk d fs t k b=false):=by unfold Hid flipOk;rw [h3];simp
     go_wp2_with (first
      | (go_at_call 68;refine (inRange_any _ _ _ _).mono ?_;rintro e w' ⟨rfl,rfl⟩)
      | (go_at_call 115;refine (frameWords_any d _ ht1 ht2).mono ?_;rintro e w3 ⟨rfl,b3⟩;have B3:=Lib.hid b3;clear b3))
     go_ret2
     exact ⟨A1,n,c1,by simp [HFO.out],HB.out _ HFO.out B3.out⟩
    | true =>
     have HFO:Hid (flipOk d fs t k b=true):=by unfold Hid flipOk;rw [HF.out,HX.out,h1,h2,h3];rfl
     go_wp2_with (first
      | (go_at_call 68;refine (inRange_any _ _ _ _).mono ?_;rintro e w' ⟨rfl,rfl⟩)
      | (go_at_call 115;refine (frameWords_any d _ ht1 ht2).mono ?_;rintro e w3 ⟨rfl,b3⟩;have B3:=Lib.hid b3;clear b3))
     clear HB hcc hff
     have o3:=(O2.out.below B3.out)
     obtain ⟨bb,A2,m2,c2,rfl,hck,_,o4,l4,hup⟩:=o3.row (k:=t.toNat) (by omega)
     have hrl:m2=fwI d:=by
      have hw:=(framesOk_iff HF.out).2.2 t.toNat (by rw [HX.out];omega)
      simp only [wordsOk,Bool.and_eq_true,decide_eq_true_eq] at hw
      rw [o4.len] at hw
      exact hw.1
     have hk:k.toNat<m2:=by omega
     obtain ⟨bi,cur,rfl,_⟩:=o4.block (by omega)
     obtain ⟨hci,hfi⟩:=o4.cellAt hk
     have HUP:=Lib.hid hup
     have O4:=Lib.hid o4
     have hs3:=B3.out.size
     have hk0:(0:Int)≤k:=by omega
     have hk1:k<(m2:Int):=by omega
     clear o3 o4 l4 hup hrl
     have hFF:Hid (flipFrame d fs t k b=fs.set t.toNat ((fs[t.toNat]?.getD []).set k.toNat (flipBit ((fs[t.toNat]?.getD [])[k.toNat]?.getD 0) b))):=by unfold Hid flipFrame;rw [HFO.out];rfl
     generalize fs[t.toNat]?.getD []=f at *
     generalize f[k.toNat]?.getD 0=code at *
     go_wp2_with fail
     go_region_with (go_at_call 141;refine (flipBit_any _ _ _).mono ?_;rintro e w' ⟨rfl,rfl⟩)
     all_goals
      go_wp2_with fail
      go_ret2
      refine ⟨some ⟨bb,0,none⟩,n,c1,by simp [HFO.out],?_,?_⟩
      ·rw [hFF.out]
       have hst:=HUP.out (w3.setCell ⟨bi,k.toNat,none⟩ (.int .i64 (flipBit code b))) _ (grownBy_store (grownBy_refl _ _) _ _) (O4.out.stored hk (flipBit code b))
       exact Own2.widen (w:=w3.setCell ⟨bi,k.toNat,none⟩ (.int .i64 (flipBit code b))) hst (by simp) (by simp [World.setCell];omega)
      ·exact ((below_tr B2.out B3.out).setCell (p:=⟨bi,k.toNat,none⟩) (by have:=(O4.out.lt _ rfl).1;simp at this;simp only;omega) _).drew
set_option maxHeartbeats 2000000 in
theorem sflipFrame_any (d:Dev) (A:Option Addr) (n c:Nat) (fs:List (List Int)) (t k b:Int) (w:World) (hA:Rows2 w A n fs) (hz:size2 fs≤1099511627776) :
  Calls Tryz.prog 147 #[.agg #[.int .i64 d.W,.int .i64 d.H,.int .i64 d.T,.int .i64 d.R],.slice A n c,.int .i64 t,.int .i64 k,.int .i64 b] w fun e w'=>∃A' n' c',e = .returned (.tuple #[.slice A' n' c',.bool (flipOk d fs t k b)])∧Own2 w.heap.size w'.heap.size w' A' n' c' (flipFrame d fs t k b)∧Below w.heap.size w w':=by
 have hX:=hA.1
 have hn:=(size2_bd hX hz).1
 have HX:=Lib.hid hX
 have HI:=Lib.hid hA
 clear hA hX
 go_enter Tryz.func147,Tryz.ntmps147
 go_wp2_with fail
 refine (l19Copy_any A n c fs _ (HI.out.below (below_new (Below.refl _ _) _)) hz).mono ?_
 rintro e w1 ⟨A1,c1,rfl,o1,b1⟩
 have hs1:=b1.size
 simp only [World.size_alloc] at hs1
 obtain ⟨hcc,hff⟩:=bcell b1
 have O1:=Lib.hid o1
 have B1:=Lib.hid (below_tr (below_new (Below.refl _ _) _) b1)
 have D1:=Lib.hid b1
 clear o1 b1
 go_wp2_with fail
 refine (sframesOk_any d A n c fs _ (HI.out.below B1.out) hz).mono ?_
 rintro e w2 ⟨rfl,b2⟩
 have hs2:=b2.size
 have O2:=Lib.hid (O1.out.below b2)
 have B2:=Lib.hid (below_tr B1.out b2)
 have D2:=Lib.hid (below_tr D1.out b2)
 clear b2 hcc hff
 obtain ⟨hcc,hff⟩:=bcell D2.out
 have hbad:∀(w3:World),flipOk d fs t k b=false→Below w2.heap.size w2 w3→Own2 w.heap.size w3.heap.size w3 A1 n c1 (flipFrame d fs t k b)∧Below w.heap.size w w3:=by
  intro w3 h0 h3
  have h3s:=h3.size
  rw [flipFrame,h0,if_neg (by simp)]
  exact ⟨(O2.out.below h3).widen (by simp) (by omega),below_tr B2.out h3⟩
 have HB:=Lib.hid hbad
 clear hbad
 cases hf:framesOk d fs with
 | false =>
  have HFO:Hid (flipOk d fs t k b=false):=by unfold Hid flipOk;rw [hf];rfl
  clear hf
  go_wp2_with fail
  go_ret2
  exact ⟨A1,n,c1,by simp [HFO.out],HB.out _ HFO.out (Below.refl _ _)⟩
 | true =>
  have hdv:=(framesOk_iff hf).1
  have hfb:=fwI_bd hdv
  obtain ⟨_,_,_,_,ht1,ht2,_⟩:=devOk_bd hdv
  have HF:=Lib.hid hf
  clear hf
  obtain ⟨_,hA2⟩:=HI.out.below B2.out
  cases h1:inR t 0 ((n:Int) - 1) with
  | false =>
   have HFO:Hid (flipOk d fs t k b=false):=by unfold Hid flipOk;rw [HX.out,h1];simp
   clear hA2
   rcases inR_false.1 h1 with h|h
   ·have hd:decide (t<0)=true:=by simp;omega
    go_wp2_with fail
    go_ret2
    exact ⟨A1,n,c1,by simp [HFO.out],HB.out _ HFO.out (Below.refl _ _)⟩
   ·have hd:decide (t<0)=false:=by simp;omega
    have hd':decide (t≥(n:Int))=true:=by simp;omega
    go_wp2_with fail
    go_ret2
    exact ⟨A1,n,c1,by simp [HFO.out],HB.out _ HFO.out (Below.refl _ _)⟩
  | true =>
   have h1b:=inR_iff.1 h1
   obtain ⟨pb,po,rfl,_,hc⟩:=hA2 (by omega)
   obtain ⟨A3,m3,c3,hpk,hI3⟩:=hc t.toNat (by omega)
   have hm3:(m3:Int)=fwI d:=by
    have hw:=(framesOk_iff HF.out).2.2 t.toNat (by rw [HX.out];omega)
    simp only [wordsOk,Bool.and_eq_true,decide_eq_true_eq] at hw
    rw [hI3.1] at hw
    exact hw.1
   have HM3:=Lib.hid hm3
   clear hc hI3 hm3
   have hd1:decide (t<0)=false:=by simp;omega
   have hd2:decide (t≥(n:Int))=false:=by simp;omega
   cases h2:inR k 0 (fwI d - 1) with
   | false =>
    have HFO:Hid (flipOk d fs t k b=false):=by unfold Hid flipOk;rw [h2];simp
    rcases inR_false.1 h2 with h|h
    ·have hd:decide (k<0)=true:=by simp;omega
     go_wp2_with fail
     go_ret2
     exact ⟨A1,n,c1,by simp [HFO.out],HB.out _ HFO.out (Below.refl _ _)⟩
    ·have hd:decide (k<0)=false:=by simp;omega
     have hd':decide (k≥(m3:Int))=true:=by have:=HM3.out;simp;omega
     go_wp2_with fail
     go_ret2
     exact ⟨A1,n,c1,by simp [HFO.out],HB.out _ HFO.out (Below.refl _ _)⟩
   | true =>
    have h2b:=inR_iff.1 h2
    have hd3:decide (k<0)=false:=by simp;omega
    have hd4:decide (k≥(m3:Int))=false:=by have:=HM3.out;simp;omega
    cases h3:inR b 0 21 with
    | false =>
     have HFO:Hid (flipOk d fs t k b=false):=by unfold Hid flipOk;rw [h3];simp
     go_wp2_with (go_at_call 119;refine (l01In_any _ _ _ _).mono ?_;rintro e w' ⟨rfl,rfl⟩)
     go_ret2
     exact ⟨A1,n,c1,by simp [HFO.out],HB.out _ HFO.out (Below.refl _ _)⟩
    | true =>
     have HFO:Hid (flipOk d fs t k b=true):=by unfold Hid flipOk;rw [HF.out,HX.out,h1,h2,h3];rfl
     go_wp2_with (go_at_call 119;refine (l01In_any _ _ _ _).mono ?_;rintro e w' ⟨rfl,rfl⟩)
     clear hd1 hd2 hd3 hd4
     obtain ⟨w3,hw3⟩:∃w3,w3=w2:=⟨_,rfl⟩
     have B3:Hid (Below w2.heap.size w2 w3):=by rw [hw3];exact Below.refl _ _
     rw [←hw3]
     clear hw3
     clear HB hcc hff
     have o3:=(O2.out.below B3.out)
     obtain ⟨bb,A2,m2,c2,rfl,hck,_,o4,l4,hup⟩:=o3.row (k:=t.toNat) (by omega)
     have hrl:m2=fwI d:=by
      have hw:=(framesOk_iff HF.out).2.2 t.toNat (by rw [HX.out];omega)
      simp only [wordsOk,Bool.and_eq_true,decide_eq_true_eq] at hw
      rw [o4.len] at hw
      exact hw.1
     have hk:k.toNat<m2:=by omega
     obtain ⟨bi,cur,rfl,_⟩:=o4.block (by omega)
     obtain ⟨hci,hfi⟩:=o4.cellAt hk
     have HUP:=Lib.hid hup
     have O4:=Lib.hid o4
     have hs3:=B3.out.size
     have hk0:(0:Int)≤k:=by omega
     have hk1:k<(m2:Int):=by omega
     clear o3 o4 l4 hup hrl
     have hFF:Hid (flipFrame d fs t k b=fs.set t.toNat ((fs[t.toNat]?.getD []).set k.toNat (flipBit ((fs[t.toNat]?.getD [])[k.toNat]?.getD 0) b))):=by unfold Hid flipFrame;rw [HFO.out];rfl
     generalize fs[t.toNat]?.getD []=f at *
     generalize f[k.toNat]?.getD 0=code at *
     go_wp2_with fail
     go_region_with (go_at_call 180;refine (sflipBit_any _ _ _).mono ?_;rintro e w' ⟨rfl,rfl⟩)
     all_goals
      go_wp2_with fail
      go_ret2
      refine ⟨some ⟨bb,0,none⟩,n,c1,by simp [HFO.out],?_,?_⟩
      ·rw [hFF.out]
       have hst:=HUP.out (w3.setCell ⟨bi,k.toNat,none⟩ (.int .i64 (flipBit code b))) _ (grownBy_store (grownBy_refl _ _) _ _) (O4.out.stored hk (flipBit code b))
       exact Own2.widen (w:=w3.setCell ⟨bi,k.toNat,none⟩ (.int .i64 (flipBit code b))) hst (by simp) (by simp [World.setCell];omega)
      ·exact ((below_tr B2.out B3.out).setCell (p:=⟨bi,k.toNat,none⟩) (by have:=(O4.out.lt _ rfl).1;simp at this;simp only;omega) _).drew
end Go.Proofs.YtbnfdhidgdfbeaaGreat

namespace Go.Proofs.YtbnfdhidgdfbeaaGreat
set_option maxRecDepth 100000
open Go.RowKit

def regZ (r:Reg):Bool:=decide (r.X0=0) && (decide (r.Y0=0) && (decide (r.X1=0) && decide (r.Y1=0)))
def bkF (b:Bd):Bool:=framesOk b.dev b.frames && (stOk b.dev b.state && (if b.phase=0∨b.phase=2 then (regZ b.reg && decide (b.saved.length=0)) else decide (b.phase=1) && rqF b.dev b.saved b.reg))

set_option maxHeartbeats 1000000 in
theorem boardOk_any (b:Bd) (s:Sl3) (w:World) (hA:BoardRd w b s) (hz1:size2 b.frames≤1099511627776) (h2:s.n2≤16777216) (h3:size2 b.saved≤1099511627776) :
  Calls Tryz.prog 11 #[.agg (bdArr b s)] w fun e w'=>e = .returned (.bool (bkF b))∧Below w.heap.size w w':=by
 obtain ⟨d,fs,st,ph,r,sv⟩:=b
 obtain ⟨A1,n1,c1,A2,n2,c2,A3,n3,c3⟩:=s
 have HB0:=Lib.hid (below_new (Below.refl w.heap.size w) (.cells (bdArr ⟨d,fs,st,ph,r,sv⟩ ⟨A1,n1,c1,A2,n2,c2,A3,n3,c3⟩) 31))
 have HI:=Lib.hid hA
 dsimp only at hz1 h2 h3
 clear hA
 go_enter Tryz.func11,Tryz.ntmps11
 go_wp2_with fail
 refine (framesOk_any d A1 n1 c1 fs _ (HI.out.frames.below HB0.out) hz1).mono ?_
 rintro e w1 ⟨rfl,b1⟩
 have hs1:=b1.size
 simp only [World.size_alloc] at hs1
 have D1:=Lib.hid b1
 obtain ⟨hcc,hff⟩:=bcell b1
 clear b1
 cases hf:framesOk d fs with
 | false =>
  have HF:Hid (bkF ⟨d,fs,st,ph,r,sv⟩=false):=by show _=_;unfold bkF;rw [hf];rfl
  clear hf
  go_wp2_with fail
  go_ret
  exact ⟨ret_bool HF.out.symm,below_tr HB0.out D1.out⟩
 | true =>
  have HFO:=Lib.hid hf
  clear hf
  go_wp2_with fail
  refine (emuStateOk_any d A2 n2 c2 st _ (HI.out.state.below (below_tr HB0.out D1.out)) h2).mono ?_
  rintro e w2 ⟨rfl,b2⟩
  have D2:=Lib.hid (below_tr D1.out b2)
  have hs2:=b2.size
  clear b2 hcc hff
  obtain ⟨hcc,hff⟩:=bcell D2.out
  cases hst:stOk d st with
  | false =>
   have HF:Hid (bkF ⟨d,fs,st,ph,r,sv⟩=false):=by show _=_;unfold bkF;rw [hst];simp
   clear hst
   go_wp2_with fail
   go_ret
   exact ⟨ret_bool HF.out.symm,below_tr HB0.out D2.out⟩
  | true =>
   have HF:Hid (bkF ⟨d,fs,st,ph,r,sv⟩=(if ph=0∨ph=2 then (regZ r && decide (sv.length=0)) else decide (ph=1) && rqF d sv r)):=by show _=_;unfold bkF;rw [hst,HFO.out];rfl
   clear hst
   by_cases h1:ph=1
   ·subst h1
    rw [if_neg (by omega)] at HF
    cases hr:regOk d r with
    | false =>
     have HR:Hid (∀w',Calls Tryz.prog 46 #[.agg #[.int .i64 d.W,.int .i64 d.H,.int .i64 d.T,.int .i64 d.R],.agg #[.int .i64 r.X0,.int .i64 r.Y0,.int .i64 r.X1,.int .i64 r.Y1]] w' fun e w''=>e = .returned (.bool false)∧Below w'.heap.size w' w''):=fun w'=>by have h:=regionOk_any d r w';rwa [hr] at h
     have HE:Hid (rqF d sv r=false):=by show _=_;unfold rqF;rw [hr];simp
     clear hr
     go_wp2_with fail
     refine (HR.out _).mono ?_
     rintro e w3 ⟨rfl,b3⟩
     have D3:=Lib.hid (below_tr D2.out b3)
     clear b3 hcc hff
     go_wp2_with fail
     go_ret
     exact ⟨ret_bool (by rw [HF.out,HE.out];rfl),below_tr HB0.out D3.out⟩
    | true =>
     have HR:Hid (∀w',Calls Tryz.prog 46 #[.agg #[.int .i64 d.W,.int .i64 d.H,.int .i64 d.T,.int .i64 d.R],.agg #[.int .i64 r.X0,.int .i64 r.Y0,.int .i64 r.X1,.int .i64 r.Y1]] w' fun e w''=>e = .returned (.bool true)∧Below w'.heap.size w' w''):=fun w'=>by have h:=regionOk_any d r w';rwa [hr] at h
     clear hr
     go_wp2_with fail
     refine (HR.out _).mono ?_
     rintro e w3 ⟨rfl,b3⟩
     have D3:=Lib.hid (below_tr D2.out b3)
     have hs3:=b3.size
     clear b3 hcc hff
     obtain ⟨hcc,hff⟩:=bcell D3.out
     cases hg:framesOk d sv with
     | false =>
      have HG:Hid (∀w',Rows2 w' A3 n3 sv→Calls Tryz.prog 44 #[.agg #[.int .i64 d.W,.int .i64 d.H,.int .i64 d.T,.int .i64 d.R],.slice A3 n3 c3] w' fun e w''=>e = .returned (.bool false)∧Below w'.heap.size w' w''):=fun w' hw=>by have h:=framesOk_any d A3 n3 c3 sv w' hw h3;rwa [hg] at h
      have HE:Hid (rqF d sv r=false):=by show _=_;unfold rqF;rw [hg];rfl
      clear hg
      go_wp2_with fail
      refine (HG.out _ (HI.out.saved.below (below_tr HB0.out D3.out))).mono ?_
      rintro e w4 ⟨rfl,b4⟩
      have D4:=Lib.hid (below_tr D3.out b4)
      clear b4 hcc hff
      go_wp2_with fail
      go_ret
      exact ⟨ret_bool (by rw [HF.out,HE.out];rfl),below_tr HB0.out D4.out⟩
     | true =>
      have HG:Hid (∀w',Rows2 w' A3 n3 sv→Calls Tryz.prog 44 #[.agg #[.int .i64 d.W,.int .i64 d.H,.int .i64 d.T,.int .i64 d.R],.slice A3 n3 c3] w' fun e w''=>e = .returned (.bool true)∧Below w'.heap.size w' w''):=fun w' hw=>by have h:=framesOk_any d A3 n3 c3 sv w' hw h3;rwa [hg] at h
      clear hg
      go_wp2_with fail
      refine (HG.out _ (HI.out.saved.below (below_tr HB0.out D3.out))).mono ?_
      rintro e w4 ⟨rfl,b4⟩
      have D4:=Lib.hid (below_tr D3.out b4)
      have hs4:=b4.size
      clear b4 hcc hff
      obtain ⟨hcc,hff⟩:=bcell D4.out
      go_wp2_with fail
      refine (regionQuiet_any d A3 n3 c3 sv r _ (HI.out.saved.below (below_tr HB0.out D4.out)) h3).mono ?_
      rintro e w5 ⟨rfl,b5⟩
      have D5:=Lib.hid (below_tr D4.out b5)
      clear b5 hcc hff
      go_wp2_with fail
      go_ret
      exact ⟨ret_bool (by rw [HF.out];simp),below_tr HB0.out D5.out⟩
   ·by_cases h2':ph=0∨ph=2
    ·rw [if_pos h2'] at HF
     have hln:sv.length=n3:=HI.out.saved.1
     have HLN:=Lib.hid hln
     clear hln
     obtain ⟨x0,y0,x1,y1⟩:=r
     have HZ:Hid (regZ ⟨x0,y0,x1,y1⟩=(decide (x0=0) && (decide (y0=0) && (decide (x1=0) && decide (y1=0))))):=rfl
     by_cases hz:x0=0∧y0=0∧x1=0∧y1=0
     ·obtain ⟨rfl,rfl,rfl,rfl⟩:=hz
      have HE:Hid (((n3:Int)==0)=decide (n3=0)):=by show _=_;rw [Bool.eq_iff_iff,beq_iff_eq,decide_eq_true_iff];omega
      rcases h2' with rfl|rfl
      ·go_wp2_with fail
       go_ret
       exact ⟨ret_bool (by rw [HF.out,HZ.out,HLN.out,HE.out];simp),below_tr HB0.out D2.out⟩
      ·go_wp2_with fail
       go_ret
       exact ⟨ret_bool (by rw [HF.out,HZ.out,HLN.out,HE.out];simp),below_tr HB0.out D2.out⟩
     ·have HZF:Hid (regZ ⟨x0,y0,x1,y1⟩=false):=by
       rw [HZ.out]
       show _=_
       by_cases a:x0=0
       ·by_cases b:y0=0
        ·by_cases c:x1=0
         ·rw [decide_eq_false (p:=y1=0) (fun e=>hz ⟨a,b,c,e⟩)];simp
         ·rw [decide_eq_false c];simp
        ·rw [decide_eq_false b];simp
       ·rw [decide_eq_false a];simp
      rcases h2' with rfl|rfl
      ·go_wp2_with fail
       all_goals
        go_ret
        exact ⟨ret_bool (by rw [HF.out,HZF.out];rfl),below_tr HB0.out D2.out⟩
      ·go_wp2_with fail
       all_goals
        go_ret
        exact ⟨ret_bool (by rw [HF.out,HZF.out];rfl),below_tr HB0.out D2.out⟩
    ·rw [if_neg h2'] at HF
     have p0:(ph==0)=false:=by rw [beq_eq_false_iff_ne];omega
     have p1:(ph==1)=false:=by rw [beq_eq_false_iff_ne];omega
     have p2:(ph==2)=false:=by rw [beq_eq_false_iff_ne];omega
     have HE:Hid (decide (ph=1)=false):=by show _=_;simp [h1]
     clear h2' h1
     go_wp2_with fail
     go_ret
     exact ⟨ret_bool (by rw [HF.out,HE.out];rfl),below_tr HB0.out D2.out⟩
end Go.Proofs.YtbnfdhidgdfbeaaGreat

namespace Go.Proofs.YtbnfdhidgdfbeaaGreat
set_option maxRecDepth 100000
open Go.RowKit Cw

def rZ:Reg:=⟨0,0,0,0⟩
def ovS (old:List Int) (ts:List Int) (new:List Int):List Int:=ts.foldl (fun l t=>(l.set (2 * t.toNat) (old[2 * t.toNat]?.getD 0)).set (2 * t.toNat+1) (old[2 * t.toNat+1]?.getD 0)) new
def zS (ts:List Int) (l:List Int):List Int:=ts.foldl (fun l t=>l.set t.toNat 0) l
def abF (sv:List (List Int)) (ts:List Int) (fs:List (List Int)):List (List Int):=ts.foldl (fun l t=>l.set t.toNat (sv[t.toNat]?.getD [])) fs
theorem ovS_snoc (old ts:List Int) (t:Int) (new:List Int):ovS old (ts++[t]) new=((ovS old ts new).set (2 * t.toNat) (old[2 * t.toNat]?.getD 0)).set (2 * t.toNat+1) (old[2 * t.toNat+1]?.getD 0):=by simp [ovS]
theorem zS_snoc (ts:List Int) (t:Int) (l:List Int):zS (ts++[t]) l=(zS ts l).set t.toNat 0:=by simp [zS]
theorem abF_snoc (sv:List (List Int)) (ts:List Int) (t:Int) (l:List (List Int)):abF sv (ts++[t]) l=(abF sv ts l).set t.toNat (sv[t.toNat]?.getD []):=by simp [abF]
theorem take_snoc {ts:List Int} {k:Nat} (h:k<ts.length):ts.take (k+1)=ts.take k++[ts[k]?.getD 0]:=by rw [List.take_add_one,List.getElem?_eq_getElem h];rfl
theorem ovS_take {old ts new:List Int} {k:Nat} (h:k<ts.length):ovS old (ts.take (k+1)) new=((ovS old (ts.take k) new).set (2 * (ts[k]?.getD 0).toNat) (old[2 * (ts[k]?.getD 0).toNat]?.getD 0)).set (2 * (ts[k]?.getD 0).toNat+1) (old[2 * (ts[k]?.getD 0).toNat+1]?.getD 0):=by rw [take_snoc h,ovS_snoc]
theorem zS_take {ts l:List Int} {k:Nat} (h:k<ts.length):zS (ts.take (k+1)) l=(zS (ts.take k) l).set (ts[k]?.getD 0).toNat 0:=by rw [take_snoc h,zS_snoc]
theorem abF_take {sv:List (List Int)} {ts:List Int} {l:List (List Int)} {k:Nat} (h:k<ts.length):abF sv (ts.take (k+1)) l=(abF sv (ts.take k) l).set (ts[k]?.getD 0).toNat (sv[(ts[k]?.getD 0).toNat]?.getD []):=by rw [take_snoc h,abF_snoc]
theorem ovS_length (old ts:List Int):∀new:List Int,(ovS old ts new).length=new.length:=by
 induction ts with
 | nil=>intro new;rfl
 | cons t ts ih=>intro new;exact (ih _).trans (by simp)
theorem zS_length (ts:List Int):∀l:List Int,(zS ts l).length=l.length:=by
 induction ts with
 | nil=>intro new;rfl
 | cons t ts ih=>intro new;exact (ih _).trans (by simp)
theorem abF_length (sv:List (List Int)) (ts:List Int):∀l:List (List Int),(abF sv ts l).length=l.length:=by
 induction ts with
 | nil=>intro new;rfl
 | cons t ts ih=>intro new;exact (ih _).trans (by simp)
theorem regTo_in {d:Dev} {r:Reg} {k:Nat} {t:Int} (h:t∈regTo d r k):0≤t∧t<k∧inReg d r t=true:=by
 induction k with
 | zero=>simp [regTo] at h
 | succ k ih =>
  rw [regTo,List.mem_append] at h
  rcases h with h|h
  ·have:=ih h;exact ⟨this.1,by omega,this.2.2⟩
  ·split at h
   ·rename_i hr
    rw [List.mem_singleton] at h
    subst h
    exact ⟨by omega,by omega,hr⟩
   ·cases h
theorem regTiles_in {d:Dev} {r:Reg} {j:Nat} (h:j<(regTiles d r).length):0≤(regTiles d r)[j]?.getD 0∧(regTiles d r)[j]?.getD 0<(tiles d:Int):=by
 rw [List.getElem?_eq_getElem h,Option.getD_some]
 have hm:=List.getElem_mem h
 revert hm
 generalize (regTiles d r)[j]=t
 unfold regTiles
 split
 ·intro hm;have:=regTo_in hm;exact ⟨this.1,this.2.1⟩
 ·intro hm;cases hm

/-- All parts of a board are at most M long. -/
def BdB (M:Nat) (b:Bd):Prop:=size2 b.frames≤M∧b.state.length≤M∧size2 b.saved≤M
theorem BdB.ok {M:Nat} {b:Bd} (h:BdB M b) (hM:M≤1099511627776):BdOk b:=⟨Nat.le_trans h.1 hM,Nat.le_trans h.2.1 hM,Nat.le_trans h.2.2 hM⟩
theorem BdB.n {M:Nat} {b:Bd} (h:BdB M b):bdN b≤3 * M:=by
 obtain ⟨h1,h2,h3⟩:=h
 unfold size2 at h1 h3
 unfold bdN
 omega

theorem bk_parts {b:Bd} (h:bkF b=true):framesOk b.dev b.frames=true∧stOk b.dev b.state=true∧(b.phase=0∨b.phase=1∨b.phase=2)∧(b.phase=1→rqF b.dev b.saved b.reg=true)∧(b.phase≠1→b.reg=rZ∧b.saved=[]):=by
 unfold bkF at h
 simp only [Bool.and_eq_true] at h
 obtain ⟨h1,h2,h3⟩:=h
 refine ⟨h1,h2,?_⟩
 by_cases hp:b.phase=0∨b.phase=2
 ·rw [if_pos hp] at h3
  simp only [Bool.and_eq_true,regZ,decide_eq_true_iff] at h3
  obtain ⟨⟨z0,z1,z2,z3⟩,z4⟩:=h3
  refine ⟨by omega,by omega,fun _=>⟨?_,List.eq_nil_of_length_eq_zero z4⟩⟩
  cases hr:b.reg with
  | mk a1 a2 a3 a4=>rw [hr] at z0 z1 z2 z3;cases z0;cases z1;cases z2;cases z3;rfl
 ·rw [if_neg hp] at h3
  simp only [Bool.and_eq_true,decide_eq_true_iff] at h3
  exact ⟨by omega,fun _=>h3.2,by omega⟩
theorem rq_parts {d:Dev} {fs:List (List Int)} {r:Reg} (h:rqF d fs r=true):framesOk d fs=true∧regOk d r=true:=by
 unfold rqF at h
 simp only [Bool.and_eq_true] at h
 exact ⟨h.1,h.2.1⟩
theorem rows_le {fs:List (List Int)} (h:∀j,j<fs.length→(fs[j]?.getD []).length≤11) (hn:fs.length≤36):size2 fs≤432:=by
 have h1:=(size2_le_of h).1
 have h3:fs.length * (11+1)≤36 * 12:=Nat.mul_le_mul_right _ hn
 omega
theorem frame_len {d:Dev} {fs:List (List Int)} (hf:framesOk d fs=true) (j:Nat):(fs[j]?.getD []).length≤11:=by
 rcases Nat.lt_or_ge j fs.length with hj|hj
 ·have h1:=(frames_in hf hj).2
  have h2:=fwI_bd (framesOk_iff hf).1
  omega
 ·rw [List.getElem?_eq_none hj];simp

def upO (b:Bd) (t k i:Int):Bool:=bkF b && flipOk b.dev b.frames t k i
def upB (b:Bd) (t k i:Int):Bd:=if bkF b=true then { b with frames:=flipFrame b.dev b.frames t k i } else b
theorem upB_bb {M:Nat} {b:Bd} (h:BdB M b) (t k i:Int):BdB M (upB b t k i):=by
 unfold upB
 split
 ·exact ⟨flipFrame_le h.1,h.2.1,h.2.2⟩
 ·exact h
def scN (b:Bd) (s:Int):Int:=if bkF b=true then scrubN b.dev b.frames s else 0
def scB (b:Bd):Bd:=if bkF b=true then (if 0<scrubN b.dev b.frames 2 then ⟨b.dev,scrubF b.dev b.frames,b.state,2,rZ,[]⟩ else { b with frames:=scrubF b.dev b.frames }) else b
theorem scB_bb {M:Nat} {b:Bd} (h:BdB M b):BdB M (scB b):=by
 unfold scB
 split
 ·split
  ·exact ⟨scrubF_le h.1,h.2.1,show size2 ([]:List (List Int))≤M by simp [size2,sizeTo]⟩
  ·exact ⟨scrubF_le h.1,h.2.1,h.2.2⟩
 ·exact h
def beO (b:Bd) (r:Reg):Bool:=bkF b && (decide (b.phase=0) && rqF b.dev b.frames r)
def beB (b:Bd) (r:Reg):Bd:=if beO b r=true then ⟨b.dev,b.frames,b.state,1,r,b.frames⟩ else b
theorem beB_bb {M:Nat} {b:Bd} (h:BdB M b) (r:Reg):BdB M (beB b r):=by
 unfold beB
 split
 ·exact ⟨h.1,h.2.1,h.1⟩
 ·exact h
def encL (ws:List Int):List Int:=ws.map fun x=>((encW x.toNat:Nat):Int)
def wrO (b:Bd) (t:Int) (ws:List Int):Bool:=bkF b && (decide (b.phase=1) && (inR t 0 ((b.frames.length:Int) - 1) && (inReg b.dev b.reg t && wordsOk ws (fwI b.dev) 65535)))
def wrB (b:Bd) (t:Int) (ws:List Int):Bd:=if wrO b t ws=true then { b with frames:=b.frames.set t.toNat (encL ws) } else b
theorem wordsOk_len {ws:List Int} {n m:Int} (h:wordsOk ws n m=true):(ws.length:Int)=n:=by
 unfold wordsOk at h
 simp only [Bool.and_eq_true,decide_eq_true_iff] at h
 exact h.1
theorem wrB_bb {M:Nat} (hM:432≤M) {b:Bd} (h:BdB M b) (t:Int) (ws:List Int):BdB M (wrB b t ws):=by
 unfold wrB
 split
 ·rename_i ho
  unfold wrO at ho
  simp only [Bool.and_eq_true] at ho
  obtain ⟨hb,-,-,-,hw⟩:=ho
  have hf:=(bk_parts hb).1
  have hl:=wordsOk_len hw
  have h2:=fwI_bd (framesOk_iff hf).1
  refine ⟨Nat.le_trans (rows_le (fun j hj=>?_) (by rw [List.length_set];exact (frames_n hf).2)) hM,h.2.1,h.2.2⟩
  rw [List.length_set] at hj
  rcases Nat.decEq t.toNat j with e|e
  ·rw [List.getElem?_set_ne e];exact frame_len hf j
  ·subst e;rw [List.getElem?_set_self hj];show (encL ws).length≤11;unfold encL;rw [List.length_map];omega
 ·exact h
def abO (b:Bd):Bool:=bkF b && decide (b.phase=1)
def rbB (b:Bd):Bd:=⟨b.dev,abF b.saved (regTiles b.dev b.reg) b.frames,b.state,0,rZ,[]⟩
def abB (b:Bd):Bd:=if abO b=true then rbB b else b
theorem abF_len {sv:List (List Int)} (hv:∀j:Nat,(sv[j]?.getD []).length≤11) (ts:List Int):∀{l:List (List Int)},(∀j,j<l.length→(l[j]?.getD []).length≤11)→∀j,j<(abF sv ts l).length→((abF sv ts l)[j]?.getD []).length≤11:=by
 induction ts with
 | nil=>intro l h;exact h
 | cons t ts ih =>
  intro l h
  refine ih (l:=l.set t.toNat (sv[t.toNat]?.getD [])) fun j hj=>?_
  rw [List.length_set] at hj
  rcases Nat.decEq t.toNat j with e|e
  ·rw [List.getElem?_set_ne e];exact h j hj
  ·subst e;rw [List.getElem?_set_self hj];exact hv _
theorem abO_parts {b:Bd} (h:abO b=true):bkF b=true∧b.phase=1:=by
 unfold abO at h
 simpa using h
theorem rbB_bb {M:Nat} (hM:432≤M) {b:Bd} (h:BdB M b) (ho:abO b=true):BdB M (rbB b):=by
 obtain ⟨hb,hp⟩:=abO_parts ho
 obtain ⟨hf,-,-,hr,-⟩:=bk_parts hb
 have hs:=(rq_parts (hr hp)).1
 exact ⟨Nat.le_trans (rows_le (abF_len (frame_len hs) _ (fun j _=>frame_len hf j)) (by show (abF _ _ _).length≤36;rw [abF_length];exact (frames_n hf).2)) hM,h.2.1,show size2 ([]:List (List Int))≤M by simp [size2,sizeTo]⟩
theorem abB_bb {M:Nat} (hM:432≤M) {b:Bd} (h:BdB M b):BdB M (abB b):=by
 unfold abB
 split
 ·rename_i ho;exact rbB_bb hM h ho
 ·exact h
/-- Whether all codewords of a tile are clean. -/
def clnR (f:List Int):Bool:=(List.range f.length).all fun j=>(decW (f[j]?.getD 0)).2==0
def clnF (fs:List (List Int)) (ts:List Int):Bool:=(List.range ts.length).all fun j=>clnR (fs[(ts[j]?.getD 0).toNat]?.getD [])
def coC (b:Bd) (x:Int):Bool:=clnF b.frames (regTiles b.dev b.reg) && decide (fcsum b.dev b.frames (regTiles b.dev b.reg)=x)
def coO (b:Bd) (x:Int):Bool:=abO b && coC b x
def cmB (b:Bd):Bd:=⟨b.dev,b.frames,ovS (startF b.dev b.frames) (regTiles b.dev b.reg) b.state,0,rZ,[]⟩
def coB (b:Bd) (x:Int):Bd:=if abO b=true then (if coC b x=true then cmB b else rbB b) else b
theorem coB_bb {M:Nat} (hM:432≤M) {b:Bd} (h:BdB M b) (x:Int):BdB M (coB b x):=by
 unfold coB
 split
 ·rename_i ho
  split
  ·exact ⟨h.1,by show (ovS _ _ _).length≤M;rw [ovS_length];exact h.2.1,show size2 ([]:List (List Int))≤M by simp [size2,sizeTo]⟩
  ·exact rbB_bb hM h ho
 ·exact h
def spO (b:Bd) (ps:List Int):Bool:=bkF b && padsOk b.dev ps
def nxB (b:Bd) (ps:List Int):List Int:=nextF b.dev (tilesOf b.dev b.frames) b.state ps
def ouB (b:Bd) (ps:List Int):List Int:=outF b.dev (tilesOf b.dev b.frames) b.state ps
def spB (b:Bd) (ps:List Int):Bd:=if spO b ps=true then (if b.phase=2 then b else if b.phase=1 then { b with state:=ovS b.state (regTiles b.dev b.reg) (nxB b ps) } else { b with state:=nxB b ps }) else b
def spN (b:Bd) (ps:List Int):List Int:=if spO b ps=true then (if b.phase=2 then List.replicate (tiles b.dev) 0 else if b.phase=1 then zS (regTiles b.dev b.reg) (ouB b ps) else ouB b ps) else []
theorem nxB_len (b:Bd) (ps:List Int):(nxB b ps).length=b.state.length:=nextTo_length _ _ _ _ _
theorem spB_bb {M:Nat} {b:Bd} (h:BdB M b) (ps:List Int):BdB M (spB b ps):=by
 unfold spB
 split
 ·split
  ·exact h
  ·split
   ·exact ⟨h.1,by show (ovS _ _ _).length≤M;rw [ovS_length,nxB_len];exact h.2.1,h.2.2⟩
   ·exact ⟨h.1,by show (nxB b ps).length≤M;rw [nxB_len];exact h.2.1,h.2.2⟩
 ·exact h
theorem tilesOf_len {d:Dev} {fs:List (List Int)}:(tilesOf d fs).length=fs.length:=by simp [tilesOf]
theorem ouB_len {b:Bd} (h:bkF b=true) (ps:List Int):(ouB b ps).length=tiles b.dev:=by
 unfold ouB outF
 rw [outTo_length,tilesOf_len]
 exact (frames_n (bk_parts h).1).1
theorem spN_le (b:Bd) (ps:List Int):(spN b ps).length≤1000000:=by
 unfold spN
 split
 ·rename_i ho
  unfold spO at ho
  simp only [Bool.and_eq_true] at ho
  have h1:=frames_n (bk_parts ho.1).1
  have:=ouB_len ho.1 ps
  split
  ·rw [List.length_replicate];omega
  ·split
   ·rw [zS_length];omega
   ·omega
 ·exact Nat.zero_le _
end Go.Proofs.YtbnfdhidgdfbeaaGreat
