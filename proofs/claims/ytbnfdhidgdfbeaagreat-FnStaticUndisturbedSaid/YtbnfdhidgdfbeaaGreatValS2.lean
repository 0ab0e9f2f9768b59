/- A truth value as a number. ScrubFrames: the program's and the reference's answers are one. The values of all nodes: the reference's sweeps. -/
import Derived.Deep.CutBlock
import Derived.Deep.CutRange
import Derived.Deep.DeepCutAuto
import Derived.Test.YtbnfdhidgdfbeaaGreatData
import Derived.Test.YtbnfdhidgdfbeaaGreatHar
import Derived.Test.YtbnfdhidgdfbeaaGreatValS
namespace Go.Proofs.YtbnfdhidgdfbeaaGreat
set_option maxRecDepth 100000
open Go.RowKit
set_option maxHeartbeats 400000 in
theorem l07Bit_any (b:Bool) (w:World) :
  Calls Tryz.prog 85 #[.bool b] w fun e w'=>e = .returned (.int .i64 (if b then 1 else 0))∧w=w':=by
 cases b with
 | true =>
  go_enter Tryz.func85,Tryz.ntmps85
  go_wp2_with fail
  go_ret
  exact ⟨rfl,rfl⟩
 | false =>
  go_enter Tryz.func85,Tryz.ntmps85
  go_wp2_with fail
  go_ret
  exact ⟨rfl,rfl⟩
theorem l07Bit_t (w:World):Calls Tryz.prog 85 #[.bool true] w fun e w'=>e = .returned (.int .i64 1)∧w=w':=l07Bit_any true w
theorem l07Bit_f (w:World):Calls Tryz.prog 85 #[.bool false] w fun e w'=>e = .returned (.int .i64 0)∧w=w':=l07Bit_any false w
end Go.Proofs.YtbnfdhidgdfbeaaGreat

namespace Go.Proofs.YtbnfdhidgdfbeaaGreat
set_option maxRecDepth 100000
open Go.RowKit

/-- A list, mapped up to a place. -/
def mapTo {α:Type} (g:α→α) (xs:List α) (k:Nat):List α:=(xs.take k).map g++xs.drop k
theorem mapTo_zero {α:Type} (g:α→α) (xs:List α):mapTo g xs 0=xs:=by simp [mapTo]
theorem mapTo_full {α:Type} (g:α→α) {xs:List α} {k:Nat} (h:xs.length≤k):mapTo g xs k=xs.map g:=by simp [mapTo,List.take_of_length_le h,List.drop_of_length_le h]
theorem mapTo_get {α:Type} (g:α→α) {xs:List α} {k:Nat} (h:k<xs.length):(mapTo g xs k)[k]?=xs[k]?:=by
 rw [mapTo,List.getElem?_append_right (by simp;omega)]
 simp [show min k xs.length=k by omega]
theorem mapTo_set {α:Type} (g:α→α) {xs:List α} {k:Nat} (d:α) (h:k<xs.length):(mapTo g xs k).set k (g (xs[k]?.getD d))=mapTo g xs (k+1):=by
 have hl:((xs.take k).map g).length=k:=by simp;omega
 rw [mapTo,List.set_append,if_neg (by omega),hl,Nat.sub_self,List.drop_eq_getElem_cons h,List.set_cons_zero,mapTo,List.take_succ_eq_append_getElem h,List.getElem?_eq_getElem h]
 simp only [Option.getD_some,List.map_append,List.map_cons,List.map_nil,List.append_assoc,List.cons_append,List.nil_append]
def repC (c:Int):Int:=(repW c).1
def cntTo (s:Int) (f:List Int):Nat→Nat
 | 0=>0
 | k+1=>cntTo s f k+if (repW (f[k]?.getD 0)).2=s then 1 else 0
def cnt2To (s:Int) (fs:List (List Int)):Nat→Nat
 | 0=>0
 | k+1=>cnt2To s fs k+cntTo s (fs[k]?.getD []) (fs[k]?.getD []).length
def scrubRow (f:List Int):List Int:=f.map repC
def scrubF (d:Dev) (fs:List (List Int)):List (List Int):=if framesOk d fs=true then fs.map scrubRow else []
def scrubN (d:Dev) (fs:List (List Int)) (s:Int):Int:=if framesOk d fs=true then ((cnt2To s fs fs.length:Nat):Int) else 0
theorem cntTo_le (s:Int) (f:List Int) (k:Nat):cntTo s f k≤k:=by
 induction k with
 | zero=>simp [cntTo]
 | succ k ih=>rw [cntTo];split <;> omega
theorem cnt2To_le {d:Dev} {fs:List (List Int)} (h:framesOk d fs=true) (s:Int) (k:Nat):cnt2To s fs k≤11 * k:=by
 induction k with
 | zero=>simp [cnt2To]
 | succ k ih =>
  rw [cnt2To]
  have h1:=cntTo_le s (fs[k]?.getD []) (fs[k]?.getD []).length
  have:(fs[k]?.getD []).length≤11:=by
   rcases Nat.lt_or_ge k fs.length with hj|hj
   ·have:=(frames_in h hj).2
    have:=fwI_bd (framesOk_iff h).1
    omega
   ·rw [List.getElem?_eq_none hj];simp
  omega
theorem repW_st (c:Int):(repW c).2=0∨(repW c).2=1∨(repW c).2=2:=by
 unfold repW
 split
 ·simp
 ·unfold decW decN
  repeat' split
  all_goals simp
set_option maxHeartbeats 2000000 in
theorem scrubFrames_any (d:Dev) (A:Option Addr) (n c:Nat) (fs:List (List Int)) (w:World) (hA:Rows2 w A n fs) (hz:size2 fs≤1099511627776) :
  Calls Tryz.prog 64 #[.agg #[.int .i64 d.W,.int .i64 d.H,.int .i64 d.T,.int .i64 d.R],.slice A n c] w fun e w'=>∃A' n' c',e = .returned (.tuple #[.slice A' n' c',.int .i64 (scrubN d fs 1),.int .i64 (scrubN d fs 2)])∧Own2 w.heap.size w'.heap.size w' A' n' c' (scrubF d fs)∧Below w.heap.size w w':=by
 have hB0:Below w.heap.size w (w.alloc (.cells #[.int .i64 d.W,.int .i64 d.H,.int .i64 d.T,.int .i64 d.R] 25)):=below_new (Below.refl _ _) _
 have hX:=hA.1
 obtain ⟨hn,hrow⟩:=size2_bd hX hz
 have HX:=Lib.hid hX
 have HI:=Lib.hid hA
 clear hA hX hrow
 go_enter Tryz.func64,Tryz.ntmps64
 go_wp2_with fail
 refine (framesOk_any d A n c fs _ (HI.out.below hB0) hz).mono ?_
 rintro e w1 ⟨rfl,b1⟩
 have hs1:=b1.size
 simp only [World.size_alloc] at hs1
 have B1:=Lib.hid (below_tr hB0 b1)
 clear b1
 cases hf:framesOk d fs with
 | false =>
  have HF:=Lib.hid hf
  clear hf
  go_wp2_with fail
  go_ret3
  exact ⟨none,0,0,by rw [scrubN,scrubN,HF.out];rfl,by rw [scrubF,HF.out];exact Own2.nil,B1.out⟩
 | true =>
  have hfb:=fwI_bd (framesOk_iff hf).1
  obtain ⟨F,hF⟩:∃F:Nat,fwI d=(F:Int):=⟨(fwI d).toNat,by omega⟩
  rw [hF] at hfb
  have HFW:=Lib.hid hF
  have HF:=Lib.hid hf
  clear hf hF
  go_wp2_with fail
  refine (copyLists_any A n c fs _ (HI.out.below B1.out) hz).mono ?_
  rintro e w2 ⟨A2,c2,rfl,o2,b2⟩
  have hs2:=b2.size
  have O2:=Lib.hid (o2.widen (lo':=w.heap.size) (hi':=w2.heap.size) (by omega) (Nat.le_refl _))
  have B2:=Lib.hid (below_tr B1.out b2)
  clear o2 b2
  go_wp2_with fail
  generalize hq:w2.heap.size=hi at *
  have HQ:=Lib.hid hq
  clear hq
  go_loopw [8,9,24] (fun v1 v2 i wr=>∃k:Nat,k≤n∧i = .int .i64 k∧v1 = .int .i64 ((cnt2To 1 fs k:Nat):Int)∧v2 = .int .i64 ((cnt2To 2 fs k:Nat):Int)∧Own2 w.heap.size hi wr A2 n c2 (mapTo scrubRow fs k)∧Below w.heap.size w wr∧hi≤wr.heap.size) (fun _ _ i _=>n - (intOf i).toNat)
  case atStart=>exact ⟨0,Nat.zero_le _,rfl,rfl,rfl,by rw [mapTo_zero];exact O2.out,B2.out,by rw [HQ.out];exact Nat.le_refl _⟩
  case round =>
   obtain ⟨k,hk,rfl,rfl,rfl,ho,hbe,hhi⟩:=hrel
   have HE:=Lib.hid hbe
   have hk1:=cnt2To_le HF.out 1 k
   have hk2:=cnt2To_le HF.out 2 k
   by_cases hlt:k<n
   ·obtain ⟨b,A1,m1,c1,rfl,hck,hfz,o1,l1,hup,hne,hb1,hb2,hb3⟩:=ho.rowX hlt
    rw [mapTo_get _ (by rw [HX.out];exact hlt)] at o1
    have hfr:=frames_in HF.out (j:=k) (by rw [HX.out];exact hlt)
    have hm1:m1=F:=by have:=hfr.2;rw [o1.len,HFW.out] at this;omega
    subst hm1
    have HIN:=Lib.hid hfr.1
    have HUP:=Lib.hid hup
    have O1:=Lib.hid o1
    have L1:=Lib.hid l1
    have HNE:=Lib.hid hne
    have HXF:=Lib.hid o1.len
    have HC1:=Lib.hid (cnt2To.eq_2 1 fs k)
    have HC2:=Lib.hid (cnt2To.eq_2 2 fs k)
    have HMS:=Lib.hid (mapTo_set scrubRow (xs:=fs) (k:=k) [] (by rw [HX.out];exact hlt))
    have HCK:=Lib.hid hck
    clear hfr hup o1 l1 hne ho hbe hfz
    generalize fs[k]?.getD []=f at *
    go_wp2_with fail
    clear hck
    go_loopw [8,9,31] (fun v1 v2 i wq=>∃j:Nat,j≤m1∧i = .int .i64 j∧v1 = .int .i64 ((cnt2To 1 fs k+cntTo 1 f j:Nat):Int)∧v2 = .int .i64 ((cnt2To 2 fs k+cntTo 2 f j:Nat):Int)∧Own w.heap.size wq A1 m1 c1 (mapTo repC f j)∧wr.grownBy wq (A1.map (·.block))) (fun _ _ i _=>m1 - (intOf i).toNat)
    case atStart=>exact ⟨0,Nat.zero_le _,rfl,rfl,rfl,by rw [mapTo_zero];exact O1.out,grownBy_refl _ _⟩
    case round =>
     obtain ⟨j,hj,rfl,rfl,rfl,ho2,hg⟩:=hrel
     have HO2:=Lib.hid ho2
     have HG:=Lib.hid hg
     have hj1:=cntTo_le 1 f j
     have hj2:=cntTo_le 2 f j
     by_cases hlj:j<m1
     ·obtain ⟨g1,cur,rfl,hg1,hg2,_⟩:=ho2.block (by omega)
      obtain ⟨hcj,hfj⟩:=ho2.cellAt hlj
      have hne':g1≠b:=HNE.out _ rfl
      have hckb:wr.cell? ⟨b,k,none⟩=some (.slice (some ⟨g1,0,none⟩) m1 c1):=(World.cell?_of_block (a:=⟨b,k,none⟩) (hg.block b hb3 (by simpa using fun e=>hne' e.symm))).trans HCK.out
      rw [mapTo_get _ (by rw [HXF.out];exact hlj)] at hcj
      have hsq:=hg.size
      have HMS2:=Lib.hid (mapTo_set repC (xs:=f) (k:=j) 0 (by rw [HXF.out];exact hlj))
      have HD1:=Lib.hid (cntTo.eq_2 1 f j)
      have HD2:=Lib.hid (cntTo.eq_2 2 f j)
      clear ho2 hg
      generalize f[j]?.getD 0=x at *
      go_wp2_with fail
      refine (repairWord_any x _).mono ?_
      rintro e w3 ⟨rfl,b3⟩
      have O3:=Lib.hid (HO2.out.below b3)
      have G3:=Lib.hid (grownBy_trans HG.out (grownBy_of_below b3 _))
      obtain ⟨hcj3,hfj3⟩:=O3.out.cellAt hlj
      have hckb3:=(b3.cell (p:=⟨b,k,none⟩) (by simp only;omega)).trans hckb
      clear b3 hcj hfj hckb
      have hst:=repW_st x
      have HRC:Hid (repC x=(repW x).1):=rfl
      generalize (repW x).1=y at *
      generalize (repW x).2=s at *
      rcases hst with h|h|h
      ·subst h
       go_wp2_with fail
       go_roundw
       case rel=>exact ⟨j+1,by omega,by go_num,by rw [HD1.out];simp,by rw [HD2.out];simp,by rw [←HMS2.out,HRC.out];exact O3.out.stored hlj y,grownBy_store G3.out _ _⟩
       case measure=>simp [intOf];omega
      ·subst h
       go_wp2_with fail
       go_roundw
       case rel=>exact ⟨j+1,by omega,by go_num,by rw [HD1.out];simp only [if_true];go_num,by rw [HD2.out];simp,by rw [←HMS2.out,HRC.out];exact O3.out.stored hlj y,grownBy_store G3.out _ _⟩
       case measure=>simp [intOf];omega
      ·subst h
       go_wp2_with fail
       go_roundw
       case rel=>exact ⟨j+1,by omega,by go_num,by rw [HD1.out];simp,by rw [HD2.out];simp only [if_true];go_num,by rw [←HMS2.out,HRC.out];exact O3.out.stored hlj y,grownBy_store G3.out _ _⟩
       case measure=>simp [intOf];omega
     ·have hjn:j=m1:=by omega
      subst hjn
      go_wp2_with fail
      go_roundw
      case rel=>exact ⟨k+1,by omega,by go_num,by rw [HC1.out,HXF.out],by rw [HC2.out,HXF.out],
       by rw [←HMS.out];have:=HUP.out _ _ HG.out HO2.out;rw [mapTo_full repC (xs:=f) (by rw [HXF.out];exact Nat.le_refl _)] at this;exact this,HE.out.grown HG.out HE.out.size (fun q hq=>by
        cases A1 with
        | none=>cases hq
        | some a=>injection hq with hq;subst hq;exact (L1.out a rfl).1),by have:=HG.out.size;omega⟩
      case measure=>simp [intOf];omega
   ·have hkn:k=n:=by omega
    subst hkn
    go_wp2_with fail
    go_ret3
    have e1:∀s,scrubN d fs s=((cnt2To s fs k:Nat):Int):=fun s=>by rw [scrubN,HF.out,if_pos rfl,HX.out]
    refine ⟨A2,k,c2,by rw [e1,e1];rfl,?_,HE.out⟩
    ·rw [scrubF,HF.out,if_pos rfl]
     have:=ho.widen (Nat.le_refl _) hhi
     rwa [mapTo_full _ (by rw [HX.out];exact Nat.le_refl _)] at this
end Go.Proofs.YtbnfdhidgdfbeaaGreat

namespace Go.Proofs.YtbnfdhidgdfbeaaGreat
set_option maxRecDepth 100000
open Go.RowKit Cw

def cntW (w:World) (g N:Nat):Nat:=((List.range N).filter fun j=>match w.cell? ⟨g,j,none⟩ with|some v=>decide (0≤intOf v)|none=>false).length
theorem cntW_ints {w:World} {g N:Nat} {us:List Int} (h:Ints w (some ⟨g,0,none⟩) N us):cntW w g N=cntV us:=by
 have hus:us=(List.range N).map fun j=>us[j]?.getD 0:=by
  apply List.ext_getElem?
  intro i
  rw [List.getElem?_map]
  rcases Nat.lt_or_ge i N with hi|hi
  ·rw [List.getElem?_range hi,Option.map_some,List.getElem?_eq_getElem (show i<us.length by rw [h.1];exact hi),Option.getD_some]
  ·rw [List.getElem?_eq_none (show us.length≤i by rw [h.1];exact hi),List.getElem?_eq_none (show (List.range N).length≤i by simpa using hi)];rfl
 unfold cntW cntV
 have e:(List.range N).filter (fun j=>match w.cell? ⟨g,j,none⟩ with|some v=>decide (0≤intOf v)|none=>false)=(List.range N).filter ((fun x=>decide (0≤x)) ∘ fun j=>us[j]?.getD 0):=by
  apply List.filter_congr
  intro j hj
  have hj':=List.mem_range.1 hj
  obtain ⟨b,o,eA,_,hc⟩:=h.2 (by omega)
  injection eA with eA
  injection eA with e1 e2
  subst e1 e2
  have:=hc j hj'
  rw [Nat.zero_add] at this
  rw [this]
  rfl
 rw [e]
 conv=>rhs;rw [hus]
 rw [List.filter_map,List.length_map]
def measC (c:Value) (w:World) (g N:Nat):Nat:=match c with
 | .bool true=>N+1 - cntW w g N
 | _=>0
theorem stepV_set {d:Dev} {ts:List Tile} {st pads us:List Int} {n:Int} (h3:In3 us) (hno:nodeOk d n=true) (hn:nv us n<0) (hv:-1≤nodeV d ts st pads us n):stepV d ts st pads us n=us.set n.toNat (nodeV d ts st pads us n):=by
 by_cases h:0≤nodeV d ts st pads us n
 ·exact stepV_new ⟨hno,hn,h⟩
 ·rw [stepV_same (fun h2=>h h2.2.2)]
  have e1:nodeV d ts st pads us n=-1:=by omega
  have e2:nv us n=-1:=by have:=in3_nv h3 n;omega
  rw [e1]
  symm
  apply set_same
  unfold nv at e2
  rcases Nat.lt_or_ge n.toNat us.length with hlt|hge
  ·rw [List.getElem?_eq_getElem hlt] at e2 ⊢
   simpa using e2
  ·rw [List.getElem?_eq_none hge] at e2
   simp at e2
theorem flag_next {d:Dev} {ts:List Tile} {st pads vs us:List Int} {n:Int} {cb:Bool} (hcb:cb=decide (cntV vs<cntV us)) (hcm:cntV vs≤cntV us) (hlt:n.toNat<us.length) (hno:nodeOk d n=true) (hn:nv us n<0):(cb || decide (nodeV d ts st pads us n≥0))=decide (cntV vs<cntV (stepV d ts st pads us n)):=by
 by_cases h:0≤nodeV d ts st pads us n
 ·rw [stepV_new ⟨hno,hn,h⟩,cntV_set hlt hn h,decide_eq_true h,Bool.or_true,decide_eq_true (by omega)]
 ·rw [stepV_same (fun h2=>h h2.2.2),decide_eq_false h,Bool.or_false,hcb]

set_option maxHeartbeats 8000000 in
theorem sl41Values_any (d:Dev) (ts:List Tile) (TA:Option Addr) (m tc:Nat) (SA:Option Addr) (sn sc:Nat) (st:List Int) (PA:Option Addr) (pn pc:Nat) (pads:List Int) (w:World)
  (htr:RdC w w.heap.size (celT ts) (.slice TA m tc)) (hst:Ints w SA sn st) (hpa:Ints w PA pn pads) (hsn:(sn:Int)=2 * (d.W * d.H)) (hpn:(pn:Int)=d.W * d.H) (hsp:StPads d ts st pads) (hc:CfgOk d ts) :
  Calls Tryz.prog 135 #[.agg #[.int .i64 d.W,.int .i64 d.H,.int .i64 d.T,.int .i64 d.R],.slice TA m tc,.slice SA sn sc,.slice PA pn pc] w fun e' w'=>∃A' c',e' = .returned (.slice A' (nodesOf d).toNat c')∧Own w.heap.size w' A' (nodesOf d).toNat c' (valsF d ts st pads)∧Below w.heap.size w w':=by
 have hnb:=nodesOf_bd hc.dev
 have hWH:=dev_WH hc.dev
 have hT:=devOk_bd hc.dev
 have hp:=perT_bd hc.dev
 have HD:=Lib.hid hc.dev
 have HB0:=Lib.hid (below_new (Below.refl w.heap.size w) (.cells #[.int .i64 d.W,.int .i64 d.H,.int .i64 d.T,.int .i64 d.R] 25))
 obtain ⟨N,hN⟩:∃N:Nat,nodesOf d=(N:Int):=⟨(nodesOf d).toNat,by omega⟩
 have HNT:Hid (N=(nodesOf d).toNat):=by show _=_;omega
 have hNN:(nodesOf d).toNat=N:=by omega
 have HNI:Hid (∀k:Nat,k<N→nodeIn d (k:Int)=true):=by
  intro k hk
  exact nodeIn_rnP.2 ⟨hc.dev,by omega,by omega⟩
 have HRN:Hid (∀w,Calls Tryz.prog 171 #[.agg #[.int .i64 d.W,.int .i64 d.H,.int .i64 d.T,.int .i64 d.R]] w fun e w'=>e = .returned (.int .i64 (N:Int))∧Below w.heap.size w w'):=fun w=>by have h:=sRouteNodes_any d w;rwa [rn_pos hc.dev,hN] at h
 have HDN:=Lib.hid (fun n h=>drv_node (n:=n) hc h)
 have HIN:=Lib.hid (fun j=>itV_in hsp N j)
 have HSWI:=Lib.hid (fun vs hv k=>sweepTo_in (vs:=vs) hsp hv k)
 have HNV:=Lib.hid (fun vs (hv:In3 vs) n hn=>nodeV_in (n:=n) hsp hv hn)
 have HSP:=Lib.hid hsp
 have HCF:=Lib.hid hc
 have HTR:=Lib.hid htr
 have HST:=Lib.hid hst
 have HPA:=Lib.hid hpa
 have HNE:=Lib.hid hN
 rw [hN] at hnb
 rw [hNN]
 clear htr hst hpa hsp hc hN hNN
 go_enter Tryz.func135,Tryz.ntmps135
 go_wp2_with fail
 refine (l27Per_any d _ (by omega) (by omega)).mono ?_
 rintro e w1 ⟨rfl,b1⟩
 have HB1:=Lib.hid b1
 have hs1:=b1.size
 simp only [World.size_alloc] at hs1
 obtain ⟨hcc,hff⟩:=bcell b1
 clear b1
 go_wp2_with fail
 refine (l41Drivers_any d TA m tc ts _ (HTR.out.below (below_tr HB0.out HB1.out)) HCF.out).mono ?_
 rintro e w2 ⟨DA,dc,rfl,o2,b2⟩
 have HB2:=Lib.hid (below_tr HB1.out b2)
 have hs2:=b2.size
 have hdr:=o2.ints
 rw [←HNT.out] at hdr
 have HDR:=Lib.hid hdr
 clear b2 o2 hcc hff hdr
 rw [←HNT.out]
 have N2:=Lib.hid (Own.newAt (w:=w2) (base:=w2.heap.size) (g:=w2.heap.size) rfl (Nat.le_refl _))
 have hbn:=Lib.hid (below_new (Below.refl w2.heap.size w2) (.cells #[] 3))
 go_wp2_with fail
 go_loopw [11,12] (fun v i wr=>∃(k:Nat) (A:Option Addr) (c:Nat),k≤N∧i = .int .i64 k∧v = .slice A k c∧Own w2.heap.size wr A k c (List.replicate k (-1))∧Below w2.heap.size w2 wr) (fun _ i _=>N - (intOf i).toNat)
 case atStart=>exact ⟨0,_,0,by omega,rfl,rfl,N2.out,hbn.out⟩
 case round =>
  obtain ⟨k,A,c,hk,rfl,rfl,ho,hb⟩:=hrel
  have HO:=Lib.hid ho
  have HB:=Lib.hid hb
  have hs:=hb.size
  clear ho hb
  obtain ⟨hcc,hff⟩:=bcell (below_tr HB2.out HB.out)
  by_cases hlt:k<N
  ·have hdk:decide ((k:Int)<(N:Int))=true:=by simp;omega
   go_wp2_with fail
   refine (HRN.out _).mono ?_
   rintro e w3 ⟨rfl,b3⟩
   have HB3:=Lib.hid (below_tr HB.out b3)
   have HO3:=Lib.hid (HO.out.below b3)
   have hs3:=b3.size
   clear b3 hcc hff
   go_wp2_with (at_builtin;refine wpList_push rfl _ _ rfl w2.heap.size A k c _ (-1) rfl HO3.out rfl (by omega) (by omega) HB3.out ?_;rintro g4 c4 w4 o4 b4 - -)
   go_roundw
   case rel=>exact ⟨k+1,_,c4,by omega,by go_num,rfl,by rw [List.replicate_succ'];exact o4,b4⟩
   case measure=>simp [intOf];omega
  ·have hkN:k=N:=by omega
   have HKN:=Lib.hid hkN
   have hdk:decide ((k:Int)<(N:Int))=false:=by simp;omega
   clear hkN
   go_wp2_with fail
   refine (HRN.out _).mono ?_
   rintro e w3 ⟨rfl,b3⟩
   have HB3:=Lib.hid (below_tr HB.out b3)
   have ho3:=HO.out.below b3
   have hkn:=HKN.out
   subst hkn
   obtain ⟨g,cur,rfl,hgb,hgl,-⟩:=ho3.block (by omega)
   have HO3:=Lib.hid ho3
   have hs3:=b3.size
   clear b3 hcc hff ho3
   have hdk2:decide ((k:Int)<(k:Int))=false:=by simp
   go_wp2_with fail
   go_loopw [13] (fun cq wr=>∃(cb:Bool) (vs:List Int),cq = .bool cb∧Own w2.heap.size wr (some ⟨g,0,none⟩) k c vs∧In3 vs∧RelV d ts st pads k cb vs∧Below w2.heap.size w2 wr) (fun cq wr=>measC cq wr g k)
   case atStart=>exact ⟨true,_,rfl,HO3.out,HIN.out 0,by unfold RelV;rw [if_pos rfl];exact ⟨0,rfl,Nat.zero_le _⟩,HB3.out⟩
   case round =>
    obtain ⟨cb,vs,rfl,ho,hv3,hrv,hb⟩:=hrel
    have HVL:=Lib.hid ho.len
    have HO:=Lib.hid ho
    have HV3:=Lib.hid hv3
    have HRV:=Lib.hid hrv
    have HB:=Lib.hid hb
    have HCN:=Lib.hid (cntW_ints ho.ints)
    clear ho hv3 hrv hb
    cases cb with
    | false =>
     go_wp2_with fail
     go_ret
     exact ⟨_,c,rfl,by rw [←relV_done HRV.out HNT.out];exact HO.out.more (by omega),below_tr HB0.out (below_tr HB2.out HB.out)⟩
    | true =>
     obtain ⟨wo,rfl⟩:∃x,x=wr:=⟨wr,rfl⟩
     go_wp2_with fail
     go_loopw [13,14] (fun cq i wr=>∃(n:Nat) (cb:Bool),n≤k∧i = .int .i64 n∧cq = .bool cb∧cb=decide (cntV vs<cntV (sweepTo d ts st pads vs n))∧Own w2.heap.size wr (some ⟨g,0,none⟩) k c (sweepTo d ts st pads vs n)∧Below w2.heap.size w2 wr) (fun _ i _=>k - (intOf i).toNat)
     case atStart=>exact ⟨0,false,by omega,rfl,rfl,by simp [sweepTo],HO.out,HB.out⟩
     case round =>
      obtain ⟨n,cb,hn,rfl,rfl,hcb,ho,hb⟩:=hrel
      have HCB:=Lib.hid hcb
      have HO:=Lib.hid ho
      have HB:=Lib.hid hb
      clear hcb ho hb
      by_cases hlt:n<k
      ·have hdn:decide ((n:Int)<(k:Int))=true:=by simp;omega
       have hni:=HNI.out n hlt
       have HNIK:=Lib.hid hni
       have HU3:=Lib.hid (HSWI.out vs HV3.out n)
       have HSWS:Hid (sweepTo d ts st pads vs (n+1)=stepV d ts st pads (sweepTo d ts st pads vs n) (n:Int)):=rfl
       have HCM:=Lib.hid (sweepTo_cnt d ts st pads vs n).1
       obtain ⟨_,n0,n1,hq0,hq1,hr0,hr1⟩:=node_tk hni
       have HTI:=Lib.hid (node_tile hni)
       have hpe0:¬perT d=0:=by omega
       generalize sweepTo d ts st pads vs n=us at *
       have hul:=HO.out.len
       have HUL:=Lib.hid hul
       obtain ⟨zu,yu⟩:=HO.out.cellAt hlt
       have HUD:Hid (us[n]?.getD 0=nv us (n:Int)):=by show _=_;unfold nv;rw [Int.toNat_natCast]
       rw [HUD.out] at zu
       obtain ⟨hcc,hff⟩:=bcell (below_tr HB2.out HB.out)
       have hgw:=(HO.out.lt _ rfl).2
       have j0:(0:Int)≤(n:Int):=by omega
       have j1:(n:Int)<(k:Int):=by omega
       have hsB:=HB.out.size
       have hwr0:w.heap.size<wr.heap.size:=by omega
       generalize hU:nv us (n:Int)=u at *
       have HU:=Lib.hid hU
       clear hU hni hul
       by_cases hu0:u≥0
       ·have hdu:decide (u≥0)=true:=by simpa using hu0
        have HSM:=Lib.hid (stepV_same (d:=d) (ts:=ts) (st:=st) (pads:=pads) (us:=us) (n:=(n:Int)) (by rw [HU.out];exact fun h=>by have:=h.2.1;omega))
        clear hcc hff
        go_wp2_with fail
        go_roundw
        case rel=>exact ⟨n+1,cb,by omega,by go_num,rfl,by rw [HSWS.out,HSM.out];exact HCB.out,by rw [HSWS.out,HSM.out];exact HO.out,HB.out⟩
        case measure=>simp [intOf];omega
       ·have hdu:decide (u≥0)=false:=by simp;omega
        have HU0:Hid (nv us (n:Int)<0):=by show _<_;rw [HU.out];omega
        generalize hNO:nodeOk d (n:Int)=bo at *
        have HNO:=Lib.hid hNO
        have HOK:Hid (∀w',Calls Tryz.prog 172 #[.agg #[.int .i64 d.W,.int .i64 d.H,.int .i64 d.T,.int .i64 d.R],.int .i64 (n:Int)] w' fun e w''=>e = .returned (.bool bo)∧Below w'.heap.size w' w''):=fun w'=>by have h:=srouteNodeOk_any d (n:Int) w';rwa [hNO] at h
        clear hNO
        go_wp2_with fail
        refine (HOK.out _).mono ?_
        rintro e w5 ⟨rfl,b5⟩
        have HB5:=Lib.hid (below_tr HB.out b5)
        have HO5:=Lib.hid (HO.out.below b5)
        have hs5:=b5.size
        clear b5 hcc hff zu yu
        obtain ⟨hcc,hff⟩:=bcell (below_tr HB2.out HB5.out)
        cases bo with
        | false =>
         have HSM:=Lib.hid (stepV_same (d:=d) (ts:=ts) (st:=st) (pads:=pads) (us:=us) (n:=(n:Int)) (by rw [HNO.out];simp))
         clear hcc hff
         go_wp2_with fail
         go_roundw
         case rel=>exact ⟨n+1,cb,by omega,by go_num,rfl,by rw [HSWS.out,HSM.out];exact HCB.out,by rw [HSWS.out,HSM.out];exact HO5.out,HB5.out⟩
         case measure=>simp [intOf];omega
        | true =>
         have hvb:=HNV.out us HU3.out (n:Int) HNIK.out
         have HSET:=Lib.hid (stepV_set (d:=d) (ts:=ts) (st:=st) (pads:=pads) (us:=us) (n:=(n:Int)) HU3.out HNO.out HU0.out hvb.1)
         have HFL:=Lib.hid (flag_next (d:=d) (ts:=ts) (st:=st) (pads:=pads) (vs:=vs) (us:=us) (n:=(n:Int)) (cb:=cb) HCB.out HCM.out (by rw [Int.toNat_natCast,HUL.out];exact hlt) HNO.out HU0.out)
         rw [Int.toNat_natCast] at HSET
         generalize hNW:nodeV d ts st pads us (n:Int)=nw at *
         have HNW:=Lib.hid hNW
         generalize hpin:(n:Int) % perT d=pin at *
         generalize hq:(n:Int) / perT d=q at *
         have HPQ:=Lib.hid (And.intro hpin hq)
         obtain ⟨ev,hev⟩:∃ev,pin - 5=ev:=⟨_,rfl⟩
         have HEV:=Lib.hid hev
         have ev0:-5≤ev:=by omega
         have ev1:ev≤pin:=by omega
         have hgw5:g<w5.heap.size:=by omega
         have hw5:w.heap.size<w5.heap.size:=by omega
         clear hNW hcc hff
         go_upto_block 6 with fail
         clear hpin hq hev
         go_cut [] from 33 to 155 (fun wx=>Own w2.heap.size wx (some ⟨g,0,none⟩) k c (us.set n nw)∧Below w2.heap.size w2 wx)
         case first =>
          by_cases h5:pin=5∨pin=6
          ·have he01:ev=0∨ev=1:=by have:=HEV.out;omega
           have HVE0:=Lib.hid (nodeV_pin (d:=d) (ts:=ts) (st:=st) (pads:=pads) (us:=us) (n:=(n:Int)) (by rw [HPQ.out.1];omega))
           rw [HNW.out,HPQ.out.1,HPQ.out.2,HEV.out] at HVE0
           clear h5
           go_upto_region 18 with fail
           go_cut [66] from 33 to 155 (fun s66 wx=>s66 = .bool false∧w5=wx)
           case first =>
            rcases he01 with he01|he01
            ·have b0:(ev==0)=true:=by rw [beq_iff_eq];omega
             have b0':(ev != 0)=false:=by rw [bne_eq_false_iff_eq];omega
             clear he01
             go_wp2_with fail
             go_meet
             exact ⟨rfl,rfl⟩
            ·have b0:(ev==0)=false:=by rw [beq_eq_false_iff_ne];omega
             have b0':(ev != 0)=true:=by rw [bne_iff_ne];omega
             have b1:(ev==1)=true:=by rw [beq_iff_eq];omega
             have b1':(ev != 1)=false:=by rw [bne_eq_false_iff_eq];omega
             clear he01
             go_wp2_with fail
             go_meet
             exact ⟨rfl,rfl⟩
           obtain ⟨rfl,rfl⟩:=hcut
           obtain ⟨en,rfl⟩:∃en:Nat,ev=(en:Int):=⟨ev.toNat,by omega⟩
           have hen:en<2:=by omega
           clear he01
           obtain ⟨hcc,hff⟩:=bcell (below_tr HB2.out HB5.out)
           obtain ⟨hlf,hl2,htl,hf⟩:=le_fit (e:=(en:Int)) HCF.out HTI.out (by omega)
           obtain ⟨hdq,tq0,tq1⟩:=tileIn_iff.1 HTI.out
           obtain ⟨b,o,S,m3,p,L,l,lq,rfl,hbt,ca,cl,cp,cr,-,rl⟩:=HTR.out.tile htl
           change w.cell? ⟨b,o+q.toNat * 4+2,none⟩=some (.int .i64 (tileAt ts q).pad) at cp
           change RdC w w.heap.size (celE (tileAt ts q).les) (.slice L l lq) at rl
           have hll:=rl.elen
           obtain ⟨bl,ol,S4,m4,p4,rfl,hbl,d0,d1,d2,d3,r4⟩:=rl.le (k:=en) (by omega)
           have d2':w.cell? ⟨bl,ol+en * 4+2,none⟩=some (.int .i64 (leAt ts q (en:Int)).flop):=d2
           have htt:=HTR.out.tlen
           have hl:l=2:=by rw [←hll];exact hl2
           subst hl
           obtain ⟨bs,os,rfl,hbs,hcs⟩:=HST.out.2 (by omega)
           obtain ⟨bp,op,rfl,hbp,hcp⟩:=HPA.out.2 (by omega)
           have hpad:=hcp q.toNat (by omega)
           change w.cell? ⟨bp,op+q.toNat,none⟩=some (.int .i64 (nv pads q)) at hpad
           have hs0:=hcs (2 * q+(en:Int)).toNat (by omega)
           change w.cell? ⟨bs,os+(2 * q+(en:Int)).toNat,none⟩=some (.int .i64 (nv st (2 * q+(en:Int)))) at hs0
           have HPF:Hid (pinF d ts st pads us q (en:Int)=if kindOf d q=0 then (if (tileAt ts q).pad=1 then nv pads q else 0) else if kindOf d q=2 then nv st (2 * q) % 2 else if (leAt ts q (en:Int)).flop=1 then nv st (2 * q+(en:Int)) else lutF d us q (leAt ts q (en:Int))):=rfl
           have HPB:=Lib.hid (fun h=>HSP.out.pad q HTI.out h)
           have HRB:=Lib.hid (fun h=>HSP.out.ram q HTI.out h)
           have hra:=hcs (2 * q).toNat (by omega)
           change w.cell? ⟨bs,os+(2 * q).toNat,none⟩=some (.int .i64 (nv st (2 * q))) at hra
           have HLUT:=Lib.hid (fun w' (hb:Below w.heap.size w w') hv=>slut_any d ts (some ⟨b,o,none⟩) m tc k (some ⟨g,0,none⟩) c us q (en:Int) w' (HTR.out.below hb) hv HU3.out HNE.out.symm HCF.out HTI.out (by omega))
           have HTK:=Lib.hid (fun w'=>stileKind_in d q w' HTI.out)
           obtain ⟨qn,rfl⟩:=Int.eq_ofNat_of_zero_le tq0
           have hs1:(2 * (qn:Int)+(en:Int)).toNat=2 * qn+en:=by omega
           have hs2':(2 * (qn:Int)).toNat=2 * qn:=by omega
           rw [hs1] at hs0
           rw [hs2'] at hra
           rw [Int.toNat_natCast] at ca cl cp cr htl hpad
           have i0:(0:Int)≤(qn:Int):=tq0
           have i1:(qn:Int)<(m:Int):=by omega
           have i2:(qn:Int)<(pn:Int):=by omega
           have i3:2 * (qn:Int)<(sn:Int):=by omega
           have i4:2 * (qn:Int)+(en:Int)<(sn:Int):=by omega
           have i5:(0:Int)≤(en:Int):=by omega
           have i6:(en:Int)<2:=by omega
           have i7:(0:Int)≤2 * (qn:Int)+(en:Int):=by omega
           clear hlf hl2 hf rl r4 htt hll d0 d1 d2 d3 hcs hcp htl hdq tq1 tq0
           have hk3:=kindOf_bd d (qn:Int)
           generalize kindOf d (qn:Int)=K at *
           generalize tileAt ts (qn:Int)=tl at *
           generalize leAt ts (qn:Int) (en:Int)=le at *
           generalize hlv:lutF d us (qn:Int) le=lv at *
           generalize nv pads (qn:Int)=vp at *
           generalize nv st (2 * (qn:Int)+(en:Int))=v1 at *
           generalize nv st (2 * (qn:Int))=v0 at *
           clear hlv
           go_wp2_with fail
           refine (HTK.out _).mono ?_
           rintro e' w6 ⟨rfl,b6⟩
           have HB6:=Lib.hid (below_tr HB5.out b6)
           have HO6:=Lib.hid (HO5.out.below b6)
           have hs6:=b6.size
           clear b6 hcc hff
           obtain ⟨hcc,hff⟩:=bcell (below_tr HB2.out HB6.out)
           have hgw6:g<w6.heap.size:=by omega
           have hw6:w.heap.size<w6.heap.size:=by omega
           have l1:bs<w6.heap.size:=by omega
           have l2:bp<w6.heap.size:=by omega
           have l3:bl<w6.heap.size:=by omega
           have l4:b<w6.heap.size:=by omega
           rcases hk3 with rfl|rfl|rfl
           ·obtain ⟨zk,yk⟩:=HO6.out.cellAt hlt
            have hpb:=HPB.out rfl
            have hcase:(tl.pad=1∧vp=1)∨((tl.pad=1∧vp=0)∨¬tl.pad=1):=by omega
            rcases hcase with ⟨hp1,hp2⟩|hrest
            ·have q1:(tl.pad==1)=true:=by simpa using hp1
             have HVE:Hid (nw=1):=by show _=_;rw [HVE0.out,HPF.out,if_pos rfl,if_pos hp1,hp2]
             have HL7:=Lib.hid l07Bit_t
             subst hp2
             clear hp1 hpb
             go_wp2_with (go_at_call 85;refine (HL7.out _).mono ?_;rintro e' w' ⟨rfl,rfl⟩)
             go_meet
             exact ⟨by rw [HVE.out];exact HO6.out.stored hlt 1,HB6.out.setCell (p:=⟨g,n,none⟩) hgb _⟩
            ·have HVE:Hid (nw=0):=by
              show _=_
              rw [HVE0.out,HPF.out,if_pos rfl]
              rcases hrest with ⟨hp1,hp2⟩|hp1
              ·rw [if_pos hp1,hp2]
              ·rw [if_neg hp1]
             have HL7:=Lib.hid l07Bit_f
             rcases hrest with ⟨hp1,hp2⟩|hp1
             ·have q1:(tl.pad==1)=true:=by simpa using hp1
              subst hp2
              clear hp1 hpb
              go_wp2_with (go_at_call 85;refine (HL7.out _).mono ?_;rintro e' w' ⟨rfl,rfl⟩)
              go_meet
              exact ⟨by rw [HVE.out];exact HO6.out.stored hlt 0,HB6.out.setCell (p:=⟨g,n,none⟩) hgb _⟩
             ·have q1:(tl.pad==1)=false:=by simpa using hp1
              clear hp1 hpb
              go_wp2_with (go_at_call 85;refine (HL7.out _).mono ?_;rintro e' w' ⟨rfl,rfl⟩)
              go_meet
              exact ⟨by rw [HVE.out];exact HO6.out.stored hlt 0,HB6.out.setCell (p:=⟨g,n,none⟩) hgb _⟩
           ·go_wp2_with fail
            refine (HTK.out _).mono ?_
            rintro e' w7 ⟨rfl,b7⟩
            have HB7:=Lib.hid (below_tr HB6.out b7)
            have HO7:=Lib.hid (HO6.out.below b7)
            have hs7:=b7.size
            clear b7 hcc hff
            obtain ⟨hcc,hff⟩:=bcell (below_tr HB2.out HB7.out)
            have hgw7:g<w7.heap.size:=by omega
            have hw7:w.heap.size<w7.heap.size:=by omega
            have l1:bs<w7.heap.size:=by omega
            have l3:bl<w7.heap.size:=by omega
            have l4:b<w7.heap.size:=by omega
            by_cases hp1:le.flop=1
            ·have q1:(le.flop==1)=true:=by simpa using hp1
             have HVE:Hid (nw=v1):=by show _=_;rw [HVE0.out,HPF.out,if_neg (by omega),if_neg (by omega),if_pos hp1]
             obtain ⟨zk,yk⟩:=HO7.out.cellAt hlt
             clear hp1
             go_wp2_with fail
             go_meet
             exact ⟨by rw [HVE.out];exact HO7.out.stored hlt v1,HB7.out.setCell (p:=⟨g,n,none⟩) hgb _⟩
            ·have q1:(le.flop==1)=false:=by simpa using hp1
             have HVE:Hid (nw=lv):=by show _=_;rw [HVE0.out,HPF.out,if_neg (by omega),if_neg (by omega),if_neg hp1]
             clear hp1
             go_wp2_with fail
             refine (HLUT.out _ (below_tr HB0.out (below_tr HB2.out HB7.out)) HO7.out.ints).mono ?_
             rintro e' w8 ⟨rfl,b8⟩
             have HB8:=Lib.hid (below_tr HB7.out b8)
             have HO8:=Lib.hid (HO7.out.below b8)
             have hs8:=b8.size
             clear b8 hcc hff
             have hgw8:g<w8.heap.size:=by omega
             obtain ⟨zk,yk⟩:=HO8.out.cellAt hlt
             go_wp2_with fail
             go_meet
             exact ⟨by rw [HVE.out];exact HO8.out.stored hlt lv,HB8.out.setCell (p:=⟨g,n,none⟩) hgb _⟩
           ·have hrb:=HRB.out rfl
            have HA1:=Lib.hid (and1 hrb.1 hrb.2)
            have HVE:Hid (nw=v0 % 2):=by show _=_;rw [HVE0.out,HPF.out,if_neg (by omega),if_pos rfl]
            have hm0:0≤v0 % 2:=by omega
            go_wp2_with fail
            refine (HTK.out _).mono ?_
            rintro e' w7 ⟨rfl,b7⟩
            have HB7:=Lib.hid (below_tr HB6.out b7)
            have HO7:=Lib.hid (HO6.out.below b7)
            have hs7:=b7.size
            clear b7 hcc hff
            obtain ⟨hcc,hff⟩:=bcell (below_tr HB2.out HB7.out)
            have hgw7:g<w7.heap.size:=by omega
            have hw7:w.heap.size<w7.heap.size:=by omega
            have l1:bs<w7.heap.size:=by omega
            have ha1:=HA1.out
            obtain ⟨zk,yk⟩:=HO7.out.cellAt hlt
            go_wp2_with fail
            go_meet
            exact ⟨by rw [HVE.out];exact HO7.out.stored hlt (v0 % 2),HB7.out.setCell (p:=⟨g,n,none⟩) hgb _⟩
          ·have HND:=Lib.hid (fun h=>nodeV_drv (d:=d) (ts:=ts) (st:=st) (pads:=pads) (us:=us) (n:=(n:Int)) (by rw [HPQ.out.1];exact h5) h)
           have HNN:=Lib.hid (fun h=>nodeV_none (d:=d) (ts:=ts) (st:=st) (pads:=pads) (us:=us) (n:=(n:Int)) (by rw [HPQ.out.1];exact h5) h)
           rw [HNW.out] at HND HNN
           have HDI:=Lib.hid (fun h=>HDN.out (n:Int) h)
           have g0:(ev==0)=false:=by have:=HEV.out;rw [beq_eq_false_iff_ne];omega
           have g0':(ev != 0)=true:=by have:=HEV.out;rw [bne_iff_ne];omega
           have g1:(ev==1)=false:=by have:=HEV.out;rw [beq_eq_false_iff_ne];omega
           have g1':(ev != 1)=true:=by have:=HEV.out;rw [bne_iff_ne];omega
           obtain ⟨bd,od,rfl,hbd,hcd⟩:=HDR.out.2 (by omega)
           have cd:=(HB5.out.cell (p:=⟨bd,od+n,none⟩) hbd).trans (hcd n hlt)
           rw [drvTo_get hlt] at cd
           have cdf:=keep_far (q:=⟨g,n,none⟩) (v := .int .i64 0) cd (by dsimp only;omega)
           generalize drvOf d ts (n:Int)=s at *
           have HOS:=Lib.hid (HO5.out.stored hlt 0)
           have HBS:=Lib.hid (HB5.out.setCell (p:=⟨g,n,none⟩) hgb (.int .i64 0))
           have hgs:g<(w5.setCell ⟨g,n,none⟩ (.int .i64 0)).heap.size:=by rw [World.size_setCell];exact hgw5
           obtain ⟨zk,yk⟩:=HO5.out.cellAt hlt
           clear h5 hcd cd
           by_cases hs0:s≥0
           ·have hds:decide (s≥0)=true:=by simpa using hs0
            have hsne:=(HDI.out hs0).2
            have hsN:=(nodeIn_rnP.1 (HDI.out hs0).1).2.2
            obtain ⟨sn',rfl⟩:=Int.eq_ofNat_of_zero_le hs0
            have hsNN:sn'<k:=by have:=HNE.out;omega
            have hsne':sn'≠n:=by omega
            have HVE:=Lib.hid (HND.out hs0)
            obtain ⟨zs,ys⟩:=HOS.out.cellAt (k:=sn') hsNN
            obtain ⟨zn,yn⟩:=HOS.out.cellAt (k:=n) hlt
            have HUD2:Hid ((us.set n 0)[sn']?.getD 0=nv us (sn':Int)):=by show _=_;unfold nv;rw [Int.toNat_natCast,List.getElem?_set,if_neg (fun h=>hsne' h.symm)]
            rw [HUD2.out] at zs
            have m0:(0:Int)≤(sn':Int):=by omega
            have m1:(sn':Int)<(k:Int):=by omega
            have HOT:=Lib.hid (fun v=>HOS.out.stored hlt v)
            generalize nv us (sn':Int)=v at *
            clear hsN hsne
            go_wp2_with fail
            go_meet
            exact ⟨by rw [HVE.out];exact (by have h:=HOT.out v;rwa [List.set_set] at h),HBS.out.setCell (p:=⟨g,n,none⟩) hgb _⟩
           ·have hds:decide (s≥0)=false:=by simp;omega
            have HVE:=Lib.hid (HNN.out (by omega))
            go_wp2_with fail
            go_meet
            exact ⟨by rw [HVE.out];exact HOS.out,HBS.out⟩
         obtain ⟨ho8,hb8⟩:=hcut
         have HO8:=Lib.hid ho8
         have HB8:=Lib.hid hb8
         have hs8:=hb8.size
         clear ho8 hb8
         have hgw8:g<wc.heap.size:=(HO8.out.lt _ rfl).2
         obtain ⟨z8,y8⟩:=HO8.out.cellAt hlt
         have HSN:Hid ((us.set n nw)[n]?.getD 0=nw):=by show _=_;rw [List.getElem?_set,if_pos rfl,if_pos (by rw [HUL.out];exact hlt)];rfl
         rw [HSN.out] at z8
         have hcv:(cb=true∨(cb=false∧nw≥0))∨(cb=false∧¬nw≥0):=by cases cb <;> simp <;> omega
         rcases hcv with (hcb0|⟨hcb0,hv0⟩)|⟨hcb0,hv0⟩
         ·subst hcb0
          go_wp2_with fail
          go_roundw
          case rel=>exact ⟨n+1,true,by omega,by go_num,rfl,by rw [HSWS.out,←HFL.out];rfl,by rw [HSWS.out,HSET.out];exact HO8.out,HB8.out⟩
          case measure=>simp [intOf];omega
         ·subst hcb0
          have hdv:decide (nw≥0)=true:=by simpa using hv0
          go_wp2_with fail
          go_roundw
          case rel=>exact ⟨n+1,true,by omega,by go_num,rfl,by rw [HSWS.out,←HFL.out,hdv];rfl,by rw [HSWS.out,HSET.out];exact HO8.out,HB8.out⟩
          case measure=>simp [intOf];omega
         ·subst hcb0
          have hdv:decide (nw≥0)=false:=by simp;omega
          go_wp2_with fail
          go_roundw
          case rel=>exact ⟨n+1,false,by omega,by go_num,rfl,by rw [HSWS.out,←HFL.out,hdv];rfl,by rw [HSWS.out,HSET.out];exact HO8.out,HB8.out⟩
          case measure=>simp [intOf];omega
      ·have hnk:n=k:=by omega
       have HNK:=Lib.hid hnk
       have hdn:decide ((n:Int)<(k:Int))=false:=by simp;omega
       clear hnk
       have HNX:=Lib.hid (relV_next HRV.out cb (by rw [←HNK.out];exact HCB.out) HVL.out)
       have HLE:=Lib.hid (cntV_le (sweepTo d ts st pads vs n))
       have HSL:=Lib.hid (sweepTo_length d ts st pads vs n)
       have HC2:=Lib.hid (cntW_ints HO.out.ints)
       go_wp2_with fail
       go_roundw
       case rel=>exact ⟨cb,_,rfl,HO.out,HSWI.out _ HV3.out n,by have h:=HNX.out;rw [←HNK.out] at h ⊢;exact h,HB.out⟩
       case measure =>
        have h1:=HC2.out
        have h2:=HCN.out
        have h3:=HLE.out
        rw [HSL.out,HVL.out] at h3
        have h4:=HCB.out
        have h5:=cntV_le vs
        rw [HVL.out] at h5
        cases cb with
        | true =>
         show k+1 - cntW wr g k<k+1 - cntW wo g k
         rw [h1,h2]
         have:=of_decide_eq_true h4.symm
         omega
        | false =>
         show 0<k+1 - cntW wo g k
         rw [h2]
         omega
end Go.Proofs.YtbnfdhidgdfbeaaGreat
