/- A truth value as a number. -/
import Derived.Deep.CutBlock
import Derived.Deep.CutRange
import Derived.Deep.DeepCutAuto
import Derived.Test.YtignkfhdkcgkgaaGreatValS
namespace Go.Proofs.YtignkfhdkcgkgaaGreat
set_option maxHeartbeats 8000000
set_option maxRecDepth 100000
open Go.RowKit
theorem q9 (b:Bool) (w:World) :
  Calls Tryz.prog 130 #[.bool b] w fun e w'=>e = .returned (.int .i64 (if b then 1 else 0))/\w=w':=by
 cases b with
 | true =>
  go_enter Tryz.func130,Tryz.ntmps130
  go_wp2_with fail
  go_ret
  exact ⟨rfl,rfl⟩
 | false =>
  go_enter Tryz.func130,Tryz.ntmps130
  go_wp2_with fail
  go_ret
  exact ⟨rfl,rfl⟩
theorem sF (w:World):Calls Tryz.prog 130 #[.bool true] w fun e w'=>e = .returned (.int .i64 1)/\w=w':=q9 true w
theorem sG (w:World):Calls Tryz.prog 130 #[.bool false] w fun e w'=>e = .returned (.int .i64 0)/\w=w':=q9 false w
def oZ {α:Type} (g:α→α) (xs:List α) (k:Nat):List α:=(xs.take k).map g++xs.drop k
theorem vL {α:Type} (g:α→α) (xs:List α):oZ g xs 0=xs:=by simp [oZ]
theorem vM {α:Type} (g:α→α) {xs:List α} {k:Nat} (h:xs.length<=k):oZ g xs k=xs.map g:=by simp [oZ,List.take_of_length_le h,List.drop_of_length_le h]
theorem xM {α:Type} (g:α→α) {xs:List α} {k:Nat} (h:k<xs.length):(oZ g xs k)[k]?=xs[k]?:=by
 rw [oZ,List.getElem?_append_right (by simp;omega)]
 simp [show min k xs.length=k by omega]
theorem xN {α:Type} (g:α→α) {xs:List α} {k:Nat} (d:α) (h:k<xs.length):(oZ g xs k).set k (g (xs[k]?.getD d))=oZ g xs (k+1):=by
 have hl:((xs.take k).map g).length=k:=by simp;omega
 rw [oZ,List.set_append,if_neg (by omega),hl,Nat.sub_self,List.drop_eq_getElem_cons h,List.set_cons_zero,oZ,List.take_succ_eq_append_getElem h,List.getElem?_eq_getElem h]
 simp only [Option.getD_some,List.map_append,List.map_cons,List.map_nil,List.append_assoc,List.cons_append,List.nil_append]
theorem qX {α β:Type} (g:α→β) {xs:List α} {k:Nat} (d:α) (h:k<xs.length):(xs.take (k+1)).map g=(xs.take k).map g++[g (xs[k]?.getD d)]:=by
 rw [List.take_succ_eq_append_getElem h,List.map_append,List.getElem?_eq_getElem h]
 rfl
def vN (c:Int):Int:=(pF c).1
def nI (s:Int) (f:List Int):Nat→Nat
 | 0=>0
 | k+1=>nI s f k+if (pF (f[k]?.getD 0)).2=s then 1 else 0
def gq (s:Int) (fs:List (List Int)):Nat→Nat
 | 0=>0
 | k+1=>gq s fs k+nI s (fs[k]?.getD []) (fs[k]?.getD []).length
def lV (f:List Int):List Int:=f.map vN
def cu (d:Dev) (fs:List (List Int)):List (List Int):=if az d fs=true then fs.map lV else []
def dF (d:Dev) (fs:List (List Int)) (s:Int):Int:=if az d fs=true then ((gq s fs fs.length:Nat):Int) else 0
theorem pR (s:Int) (f:List Int) (k:Nat):nI s f k<=k:=by
 induction k with
 | zero=>simp [nI]
 | succ k ih=>rw [nI];split <;> omega
theorem nJ {d:Dev} {fs:List (List Int)} (h:az d fs=true) (s:Int) (k:Nat):gq s fs k<=11 * k:=by
 induction k with
 | zero=>simp [gq]
 | succ k ih =>
  rw [gq]
  have h1:=pR s (fs[k]?.getD []) (fs[k]?.getD []).length
  have:(fs[k]?.getD []).length<=11:=by
   rcases Nat.lt_or_ge k fs.length with hj|hj
   ·have:=(jK h hj).2
    have:=jq (aj h).1
    omega
   ·rw [List.getElem?_eq_none hj];simp
  omega
theorem Dl (c:Int):(pF c).2=0∨(pF c).2=1∨(pF c).2=2:=by
 unfold pF
 split
 ·simp
 ·unfold iq nZ
  repeat' split
  all_goals simp
theorem EN {fs:List (List Int)} (g:List Int→List Int) (hg:∀f,(g f).length=f.length):af (fs.map g)=af fs:=by
 unfold af
 rw [List.length_map,tH (yss:=fs)]
 intro j
 rw [List.getElem?_map]
 cases fs[j]? with
 | none =>
  have:=hg []
  simp
 | some x=>simp [hg]
theorem xO {d:Dev} {fs:List (List Int)} {M:Nat} (h:af fs<=M):af (cu d fs)<=M:=by
 unfold cu
 split
 ·rw [EN _ fun f=>by simp [lV]];exact h
 ·simp [af,bA]
theorem ul (d:Dev) (A:Option Addr) (n c:Nat) (fs:List (List Int)) (w:World) (hA:dZ w A n fs) (hz:af fs<=1099511627776) :
  Calls Tryz.prog 166 #[.agg #[.int .i64 d.W,.int .i64 d.H,.int .i64 d.T,.int .i64 d.R],.slice A n c] w fun e w'=>∃A' n' c',e = .returned (.tuple #[.slice A' n' c',.int .i64 (dF d fs 1),.int .i64 (dF d fs 2)])/\bq w.heap.size w'.heap.size w' A' n' c' (cu d fs)/\Below w.heap.size w w':=by
 have hB0:Below w.heap.size w (w.alloc (.cells #[.int .i64 d.W,.int .i64 d.H,.int .i64 d.T,.int .i64 d.R] 25)):=aB (Below.refl _ _) _
 have hX:=hA.1
 obtain ⟨hn,hrow⟩:=dz hX hz
 have HX:=Hd hX
 have HI:=Hd hA
 clear hA hX hrow
 go_enter Tryz.func166,Tryz.ntmps166
 go_wp2_with fail
 refine (gB d A n c fs _ (HI.out.below hB0) hz).mono ?_
 rintro e w1 ⟨rfl,b1⟩
 have hs1:=b1.size
 simp only [World.size_alloc] at hs1
 have B1:=Hd (aA hB0 b1)
 clear b1
 cases hf:az d fs with
 | false =>
  have HF:=Hd hf
  clear hf
  go_wp2_with fail
  go_ret3
  exact ⟨none,0,0,by rw [dF,dF,HF.out];rfl,by rw [cu,HF.out];exact bq.nil,B1.out⟩
 | true =>
  have hfb:=jq (aj hf).1
  obtain ⟨F,hF⟩:∃F:Nat,fwI d=(F:Int):=⟨(fwI d).toNat,by omega⟩
  rw [hF] at hfb
  have HFW:=Hd hF
  have HF:=Hd hf
  clear hf hF
  go_wp2_with fail
  refine (jB A n c fs _ (HI.out.below B1.out) hz).mono ?_
  rintro e w2 ⟨A2,c2,rfl,o2,b2⟩
  have hs2:=b2.size
  have O2:=Hd (o2.widen (lo':=w.heap.size) (hi':=w2.heap.size) (by omega) (Nat.le_refl _))
  have B2:=Hd (aA B1.out b2)
  clear o2 b2
  go_wp2_with fail
  generalize hq:w2.heap.size=hi at *
  have HQ:=Hd hq
  clear hq
  go_loopw [8,9,24] (fun v1 v2 i wr=>∃k:Nat,k<=n/\i = .int .i64 k/\v1 = .int .i64 ((gq 1 fs k:Nat):Int)/\v2 = .int .i64 ((gq 2 fs k:Nat):Int)/\bq w.heap.size hi wr A2 n c2 (oZ lV fs k)/\Below w.heap.size w wr/\hi<=wr.heap.size) (fun _ _ i _=>n - (intOf i).toNat)
  case atStart=>exact ⟨0,Nat.zero_le _,rfl,rfl,rfl,by rw [vL];exact O2.out,B2.out,by rw [HQ.out];exact Nat.le_refl _⟩
  case round =>
   obtain ⟨k,hk,rfl,rfl,rfl,ho,hbe,hhi⟩:=hrel
   have HE:=Hd hbe
   have hk1:=nJ HF.out 1 k
   have hk2:=nJ HF.out 2 k
   by_cases hlt:k<n
   ·obtain ⟨b,A1,m1,c1,rfl,hck,hfz,o1,l1,hup,hne,hb1,hb2,hb3⟩:=ho.rowX hlt
    rw [xM _ (by rw [HX.out];exact hlt)] at o1
    have hfr:=jK HF.out (j:=k) (by rw [HX.out];exact hlt)
    have hm1:m1=F:=by have:=hfr.2;rw [o1.len,HFW.out] at this;omega
    subst hm1
    have HIN:=Hd hfr.1
    have HUP:=Hd hup
    have O1:=Hd o1
    have L1:=Hd l1
    have HNE:=Hd hne
    have HXF:=Hd o1.len
    have HC1:=Hd (gq.eq_2 1 fs k)
    have HC2:=Hd (gq.eq_2 2 fs k)
    have HMS:=Hd (xN lV (xs:=fs) (k:=k) [] (by rw [HX.out];exact hlt))
    have HCK:=Hd hck
    clear hfr hup o1 l1 hne ho hbe hfz
    generalize fs[k]?.getD []=f at *
    go_wp2_with fail
    clear hck
    go_loopw [8,9,31] (fun v1 v2 i wq=>∃j:Nat,j<=m1/\i = .int .i64 j/\v1 = .int .i64 ((gq 1 fs k+nI 1 f j:Nat):Int)/\v2 = .int .i64 ((gq 2 fs k+nI 2 f j:Nat):Int)/\Own w.heap.size wq A1 m1 c1 (oZ vN f j)/\wr.grownBy wq (A1.map (·.block))) (fun _ _ i _=>m1 - (intOf i).toNat)
    case atStart=>exact ⟨0,Nat.zero_le _,rfl,rfl,rfl,by rw [vL];exact O1.out,iB _ _⟩
    case round =>
     obtain ⟨j,hj,rfl,rfl,rfl,ho2,hg⟩:=hrel
     have HO2:=Hd ho2
     have HG:=Hd hg
     have hj1:=pR 1 f j
     have hj2:=pR 2 f j
     by_cases hlj:j<m1
     ·obtain ⟨g1,cur,rfl,hg1,hg2,_⟩:=ho2.block (by omega)
      obtain ⟨hcj,hfj⟩:=ho2.cellAt hlj
      have hne':g1≠b:=HNE.out _ rfl
      have hckb:wr.cell? ⟨b,k,none⟩=some (.slice (some ⟨g1,0,none⟩) m1 c1):=(World.cell?_of_block (a:=⟨b,k,none⟩) (hg.block b hb3 (by simpa using fun e=>hne' e.symm))).trans HCK.out
      rw [xM _ (by rw [HXF.out];exact hlj)] at hcj
      have hsq:=hg.size
      have HMS2:=Hd (xN vN (xs:=f) (k:=j) 0 (by rw [HXF.out];exact hlj))
      have HD1:=Hd (nI.eq_2 1 f j)
      have HD2:=Hd (nI.eq_2 2 f j)
      clear ho2 hg
      generalize f[j]?.getD 0=x at *
      go_wp2_with fail
      refine (vK x _).mono ?_
      rintro e w3 ⟨rfl,b3⟩
      have O3:=Hd (HO2.out.below b3)
      have G3:=Hd (qy HG.out (nY b3 _))
      obtain ⟨hcj3,hfj3⟩:=O3.out.cellAt hlj
      have hckb3:=(b3.cell (p:=⟨b,k,none⟩) (by simp only;omega)).trans hckb
      clear b3 hcj hfj hckb
      have hst:=Dl x
      have HRC:Hid (vN x=(pF x).1):=rfl
      generalize (pF x).1=y at *
      generalize (pF x).2=s at *
      rcases hst with h|h|h
      ·subst h
       go_wp2_with fail
       go_roundw
       case rel=>exact ⟨j+1,by omega,by go_num,by rw [HD1.out];simp,by rw [HD2.out];simp,by rw [←HMS2.out,HRC.out];exact O3.out.stored hlj y,gI G3.out _ _⟩
       case measure=>simp [intOf];omega
      ·subst h
       go_wp2_with fail
       go_roundw
       case rel=>exact ⟨j+1,by omega,by go_num,by rw [HD1.out];simp only [if_true];go_num,by rw [HD2.out];simp,by rw [←HMS2.out,HRC.out];exact O3.out.stored hlj y,gI G3.out _ _⟩
       case measure=>simp [intOf];omega
      ·subst h
       go_wp2_with fail
       go_roundw
       case rel=>exact ⟨j+1,by omega,by go_num,by rw [HD1.out];simp,by rw [HD2.out];simp only [if_true];go_num,by rw [←HMS2.out,HRC.out];exact O3.out.stored hlj y,gI G3.out _ _⟩
       case measure=>simp [intOf];omega
     ·have hjn:j=m1:=by omega
      subst hjn
      go_wp2_with fail
      go_roundw
      case rel=>exact ⟨k+1,by omega,by go_num,by rw [HC1.out,HXF.out],by rw [HC2.out,HXF.out],
       by rw [←HMS.out];have:=HUP.out _ _ HG.out HO2.out;rw [vM vN (xs:=f) (by rw [HXF.out];exact Nat.le_refl _)] at this;exact this,HE.out.grown HG.out HE.out.size (fun q hq=>by
        cases A1 with
        | none=>cases hq
        | some a=>injection hq with hq;subst hq;exact (L1.out a rfl).1),by have:=HG.out.size;omega⟩
      case measure=>simp [intOf];omega
   ·have hkn:k=n:=by omega
    subst hkn
    go_wp2_with fail
    go_ret3
    have e1:∀s,dF d fs s=((gq s fs k:Nat):Int):=fun s=>by rw [dF,HF.out,if_pos rfl,HX.out]
    refine ⟨A2,k,c2,by rw [e1,e1];rfl,?_,HE.out⟩
    ·rw [cu,HF.out,if_pos rfl]
     have:=ho.widen (Nat.le_refl _) hhi
     rwa [vM _ (by rw [HX.out];exact Nat.le_refl _)] at this
theorem tX (d:Dev) (A:Option Addr) (n c:Nat) (fs:List (List Int)) (w:World) (hA:dZ w A n fs) (hz:af fs<=1099511627776) :
  Calls Tryz.prog 176 #[.agg #[.int .i64 d.W,.int .i64 d.H,.int .i64 d.T,.int .i64 d.R],.slice A n c] w fun e w'=>∃A' n' c',e = .returned (.tuple #[.slice A' n' c',.int .i64 (dF d fs 1),.int .i64 (dF d fs 2)])/\bq w.heap.size w'.heap.size w' A' n' c' (cu d fs)/\Below w.heap.size w w':=by
 have hB0:Below w.heap.size w (w.alloc (.cells #[.int .i64 d.W,.int .i64 d.H,.int .i64 d.T,.int .i64 d.R] 25)):=aB (Below.refl _ _) _
 have hX:=hA.1
 obtain ⟨hn,hrow⟩:=dz hX hz
 have HX:=Hd hX
 have HI:=Hd hA
 clear hA hX hrow
 go_enter Tryz.func176,Tryz.ntmps176
 go_wp2_with fail
 refine (iK d A n c fs _ (HI.out.below (aB hB0 _)) hz).mono ?_
 rintro e w1 ⟨rfl,b1⟩
 have hs1:=b1.size
 simp only [World.size_alloc] at hs1
 have N1:=Hd ((bq.new0 (w:=w.alloc (.cells #[.int .i64 d.W,.int .i64 d.H,.int .i64 d.T,.int .i64 d.R] 25)) (g:=w.heap.size+1) (by simp)).below b1)
 have B1:=Hd (aA (aB hB0 _) b1)
 clear b1
 cases hf:az d fs with
 | false =>
  have HF:=Hd hf
  clear hf
  go_wp2_with fail
  go_ret3
  exact ⟨_,0,0,by rw [dF,dF,HF.out];rfl,by rw [cu,HF.out];exact N1.out.widen (by omega) (by simp;omega),B1.out⟩
 | true =>
  have hfb:=jq (aj hf).1
  obtain ⟨F,hF⟩:∃F:Nat,fwI d=(F:Int):=⟨(fwI d).toNat,by omega⟩
  rw [hF] at hfb
  have HFW:=Hd hF
  have HF:=Hd hf
  clear hf hF
  obtain ⟨_,hAr⟩:=HI.out
  go_wp2_with fail
  go_loopw [7,8,9,10] (fun v v1 v2 i wr=>∃(k:Nat) (A':Option Addr) (c':Nat),k<=n/\i = .int .i64 k/\v1 = .int .i64 ((gq 1 fs k:Nat):Int)/\v2 = .int .i64 ((gq 2 fs k:Nat):Int)/\v = .slice A' k c'/\bq w.heap.size wr.heap.size wr A' k c' ((fs.take k).map lV)/\Below w.heap.size w wr) (fun _ _ _ i _=>n - (intOf i).toNat)
  case atStart=>exact ⟨0,_,0,Nat.zero_le _,rfl,rfl,rfl,rfl,by simpa using N1.out.widen (by omega) (by simp;omega),B1.out⟩
  case round =>
   obtain ⟨k,A',c',hk,rfl,rfl,rfl,rfl,ho,hbe⟩:=hrel
   have HO:=Hd ho
   have HE:=Hd hbe
   have hsw:=hbe.size
   have hk1:=nJ HF.out 1 k
   have hk2:=nJ HF.out 2 k
   clear ho
   by_cases hlt:k<n
   ·obtain ⟨b,o,rfl,hb,hc⟩:=hAr (by omega)
    obtain ⟨A1,m1,c1,hck,hI1⟩:=hc k hlt
    rw [←hbe.cell (p:=⟨b,o+k,none⟩) hb] at hck
    have hfr:=jK HF.out (j:=k) (by rw [HX.out];exact hlt)
    have hm1:m1=F:=by have:=hfr.2;rw [hI1.1,HFW.out] at this;omega
    subst hm1
    have HIN:=Hd hfr.1
    have J1:=Hd (hI1.below hbe)
    have HXF:=Hd hI1.1
    have HC1:=Hd (gq.eq_2 1 fs k)
    have HC2:=Hd (gq.eq_2 2 fs k)
    have HMS:=Hd (qX lV (xs:=fs) (k:=k) [] (by rw [HX.out];exact hlt))
    have hbw:b<wr.heap.size:=by omega
    have HCK:=Hd hck
    clear hfr hc hI1 hbe
    generalize fs[k]?.getD []=f at *
    go_wp2_with fail
    have N2:=Hd (Own.new0 (w:=wr) (base:=wr.heap.size) (Nat.le_refl _))
    clear hck
    generalize hwq:wr.heap.size=base at *
    have HWQ:=Hd hwq
    have E1:=Hd (aB (Below.refl wr.heap.size wr) (.cells #[] 3))
    clear hwq
    rw [HWQ.out] at E1
    go_loopw [8,9,11,12] (fun v1 v2 v i wq=>∃(j:Nat) (A2:Option Addr) (c2:Nat),j<=m1/\i = .int .i64 j/\v1 = .int .i64 ((gq 1 fs k+nI 1 f j:Nat):Int)/\v2 = .int .i64 ((gq 2 fs k+nI 2 f j:Nat):Int)/\v = .slice A2 j c2/\Own base wq A2 j c2 ((f.take j).map vN)/\Below base wr wq) (fun _ _ _ i _=>m1 - (intOf i).toNat)
    case atStart=>exact ⟨0,_,0,Nat.zero_le _,rfl,rfl,rfl,rfl,by simpa using N2.out,E1.out⟩
    case round =>
     obtain ⟨j,A2,c2,hj,rfl,rfl,rfl,rfl,ho2,hbe2⟩:=hrel
     have HO2:=Hd ho2
     have HE2:=Hd hbe2
     have hj1:=pR 1 f j
     have hj2:=pR 2 f j
     have hs2:=hbe2.size
     rw [HWQ.out] at hs2
     clear ho2
     by_cases hlj:j<m1
     ·obtain ⟨b3,o3,rfl,hb3,hc3⟩:=J1.out.2 (by omega)
      have hck3:=hc3 j hlj
      rw [←hbe2.cell (p:=⟨b3,o3+j,none⟩) (by rw [←HWQ.out];exact hb3)] at hck3
      have hck:=(hbe2.cell (p:=⟨b,o+k,none⟩) hbw).trans HCK.out
      have HMS2:=Hd (qX vN (xs:=f) (k:=j) 0 (by rw [HXF.out];exact hlj))
      have HD1:=Hd (nI.eq_2 1 f j)
      have HD2:=Hd (nI.eq_2 2 f j)
      clear hc3 hbe2
      generalize f[j]?.getD 0=x at *
      go_wp2_with fail
      refine (uk x _).mono ?_
      rintro e w3 ⟨rfl,b3⟩
      have hs3:=b3.size
      have O3:=Hd (HO2.out.below b3)
      have E3:=Hd (HE2.out.trans (b3.mono hs2))
      clear b3 hck hck3
      have hst:=Dl x
      have HRC:Hid (vN x=(pF x).1):=rfl
      generalize (pF x).1=y at *
      generalize (pF x).2=s at *
      rcases hst with h|h|h
      ·subst h
       go_wp2_with (first
        | ((with_reducible refine (sF _).mono ?_);rintro e w' ⟨rfl,rfl⟩)
        | ((with_reducible refine (sG _).mono ?_);rintro e w' ⟨rfl,rfl⟩)
        | (at_builtin;refine ax rfl _ _ rfl base A2 j c2 ((f.take j).map vN) _ rfl O3.out rfl (by omega) (by omega) E3.out ?_;rintro g4 cap w4 o4 b4 gr4 hat4))
       go_roundw
       case rel=>exact ⟨j+1,_,_,by omega,by go_num,by rw [HD1.out];simp,by rw [HD2.out];simp,rfl,by rw [HMS2.out,HRC.out];exact o4,b4⟩
       case measure=>simp [intOf];omega
      ·subst h
       go_wp2_with (first
        | ((with_reducible refine (sF _).mono ?_);rintro e w' ⟨rfl,rfl⟩)
        | ((with_reducible refine (sG _).mono ?_);rintro e w' ⟨rfl,rfl⟩)
        | (at_builtin;refine ax rfl _ _ rfl base A2 j c2 ((f.take j).map vN) _ rfl O3.out rfl (by omega) (by omega) E3.out ?_;rintro g4 cap w4 o4 b4 gr4 hat4))
       go_roundw
       case rel=>exact ⟨j+1,_,_,by omega,by go_num,by rw [HD1.out];simp only [if_true];go_num,by rw [HD2.out];simp,rfl,by rw [HMS2.out,HRC.out];exact o4,b4⟩
       case measure=>simp [intOf];omega
      ·subst h
       go_wp2_with (first
        | ((with_reducible refine (sF _).mono ?_);rintro e w' ⟨rfl,rfl⟩)
        | ((with_reducible refine (sG _).mono ?_);rintro e w' ⟨rfl,rfl⟩)
        | (at_builtin;refine ax rfl _ _ rfl base A2 j c2 ((f.take j).map vN) _ rfl O3.out rfl (by omega) (by omega) E3.out ?_;rintro g4 cap w4 o4 b4 gr4 hat4))
       go_roundw
       case rel=>exact ⟨j+1,_,_,by omega,by go_num,by rw [HD1.out];simp,by rw [HD2.out];simp only [if_true];go_num,rfl,by rw [HMS2.out,HRC.out];exact o4,b4⟩
       case measure=>simp [intOf];omega
     ·have hjn:j=m1:=by omega
      subst hjn
      have hck:=(hbe2.cell (p:=⟨b,o+k,none⟩) hbw).trans HCK.out
      have OO:=Hd (HO.out.below (hbe2.mono (by rw [HWQ.out];exact Nat.le_refl _)))
      clear hbe2
      go_wp2_with (at_builtin;refine oM rfl _ _ rfl w.heap.size base A' k c' ((fs.take k).map lV) base A2 j c2 _ rfl OO.out HO2.out rfl (by omega) (by omega) (by omega) (by omega) (by omega) (HE.out.trans (HE2.out.mono (by omega))) ?_;rintro g cap w5 o5 b5)
      go_roundw
      case rel=>exact ⟨k+1,_,_,by omega,by go_num,by rw [HC1.out,HXF.out];go_num,by rw [HC2.out,HXF.out];go_num,rfl,by rw [HMS.out];have:=o5;rwa [List.take_of_length_le (l:=f) (by rw [HXF.out];exact Nat.le_refl _)] at this,b5⟩
      case measure=>simp [intOf];omega
   ·have hkn:k=n:=by omega
    subst hkn
    go_wp2_with fail
    go_ret3
    have e1:∀s,dF d fs s=((gq s fs k:Nat):Int):=fun s=>by rw [dF,HF.out,if_pos rfl,HX.out]
    refine ⟨_,k,_,by rw [e1,e1];rfl,?_,HE.out⟩
    ·rw [cu,HF.out,if_pos rfl]
     have:=HO.out
     rwa [List.take_of_length_le (by rw [HX.out];exact Nat.le_refl _)] at this
open Cw
def EO (w:World) (g N:Nat):Nat:=((List.range N).filter fun j=>match w.cell? ⟨g,j,none⟩ with|some v=>decide (0<=intOf v)|none=>false).length
theorem xP {w:World} {g N:Nat} {us:List Int} (h:bH w (some ⟨g,0,none⟩) N us):EO w g N=jw us:=by
 have hus:us=(List.range N).map fun j=>us[j]?.getD 0:=by
  apply List.ext_getElem?
  intro i
  rw [List.getElem?_map]
  rcases Nat.lt_or_ge i N with hi|hi
  ·rw [List.getElem?_range hi,Option.map_some,List.getElem?_eq_getElem (show i<us.length by rw [h.1];exact hi),Option.getD_some]
  ·rw [List.getElem?_eq_none (show us.length<=i by rw [h.1];exact hi),List.getElem?_eq_none (show (List.range N).length<=i by simpa using hi)];rfl
 unfold EO jw
 have e:(List.range N).filter (fun j=>match w.cell? ⟨g,j,none⟩ with|some v=>decide (0<=intOf v)|none=>false)=(List.range N).filter ((fun x=>decide (0<=x)) ∘ fun j=>us[j]?.getD 0):=by
  apply List.filter_congr
  intro j hj
  have hj':=List.mem_range.1 hj
  obtain ⟨b,o,eA,_,hc⟩:=h.2 (by omega)
  injection eA with eA
  injection eA with e1 e2
  subst e1 e2
  have:=hc j hj'
  rw [Nat.zero_add] at this
  rw [this]
  rfl
 rw [e]
 conv=>rhs;rw [hus]
 rw [List.filter_map,List.length_map]
def Hz (c:Value) (w:World) (g N:Nat):Nat:=match c with
 | .bool true=>N+1 - EO w g N
 | _=>0
theorem EP {d:Dev} {ts:List au} {st pads us:List Int} {n:Int} (h3:In3 us) (hno:bS d n=true) (hn:nv us n<0) (hv:-1<=iw d ts st pads us n):ku d ts st pads us n=us.set n.toNat (iw d ts st pads us n):=by
 by_cases h:0<=iw d ts st pads us n
 ·exact nS ⟨hno,hn,h⟩
 ·rw [iU (fun h2=>h h2.2.2)]
  have e1:iw d ts st pads us n=-1:=by omega
  have e2:nv us n=-1:=by have:=yl h3 n;omega
  rw [e1]
  symm
  apply Az
  unfold nv at e2
  rcases Nat.lt_or_ge n.toNat us.length with hlt|hge
  ·rw [List.getElem?_eq_getElem hlt] at e2 ⊢
   simpa using e2
  ·rw [List.getElem?_eq_none hge] at e2
   simp at e2
theorem EQ {d:Dev} {ts:List au} {st pads vs us:List Int} {n:Int} {cb:Bool} (hcb:cb=decide (jw vs<jw us)) (hcm:jw vs<=jw us) (hlt:n.toNat<us.length) (hno:bS d n=true) (hn:nv us n<0):(cb || decide (iw d ts st pads us n≥0))=decide (jw vs<jw (ku d ts st pads us n)):=by
 by_cases h:0<=iw d ts st pads us n
 ·rw [nS ⟨hno,hn,h⟩,pm hlt hn h,decide_eq_true h,Bool.or_true,decide_eq_true (by omega)]
 ·rw [iU (fun h2=>h h2.2.2),decide_eq_false h,Bool.or_false,hcb]
theorem vO (d:Dev) (ts:List au) (TA:Option Addr) (m tc:Nat) (SA:Option Addr) (sn sc:Nat) (st:List Int) (PA:Option Addr) (pn pc:Nat) (pads:List Int) (w:World)
  (htr:RdC w w.heap.size (lH ts) (.slice TA m tc)) (hst:bH w SA sn st) (hpa:bH w PA pn pads) (hsn:(sn:Int)=2 * (d.W * d.H)) (hpn:(pn:Int)=d.W * d.H) (hsp:kD d ts st pads) (hc:kN d ts) :
  Calls Tryz.prog 204 #[.agg #[.int .i64 d.W,.int .i64 d.H,.int .i64 d.T,.int .i64 d.R],.slice TA m tc,.slice SA sn sc,.slice PA pn pc] w fun e' w'=>∃A' c',e' = .returned (.slice A' (ai d).toNat c')/\Own w.heap.size w' A' (ai d).toNat c' (mV d ts st pads)/\Below w.heap.size w w':=by
 have hnb:=cK hc.dev
 have hWH:=dL hc.dev
 have hT:=aY hc.dev
 have hp:=bg hc.dev
 have HD:=Hd hc.dev
 have HB0:=Hd (aB (Below.refl w.heap.size w) (.cells #[.int .i64 d.W,.int .i64 d.H,.int .i64 d.T,.int .i64 d.R] 25))
 obtain ⟨N,hN⟩:∃N:Nat,ai d=(N:Int):=⟨(ai d).toNat,by omega⟩
 have HNT:Hid (N=(ai d).toNat):=by show _=_;omega
 have hNN:(ai d).toNat=N:=by omega
 have HNI:Hid (∀k:Nat,k<N→bZ d (k:Int)=true):=by
  intro k hk
  exact iQ.2 ⟨hc.dev,by omega,by omega⟩
 have HRN:Hid (∀w,Calls Tryz.prog 67 #[.agg #[.int .i64 d.W,.int .i64 d.H,.int .i64 d.T,.int .i64 d.R]] w fun e w'=>e = .returned (.int .i64 (N:Int))/\Below w.heap.size w w'):=fun w=>by have h:=jE d w;rwa [y9 hc.dev,hN] at h
 have HDN:=Hd (fun n h=>sI (n:=n) hc h)
 have HIN:=Hd (fun j=>CZ hsp N j)
 have HSWI:=Hd (fun vs hv k=>rO (vs:=vs) hsp hv k)
 have HNV:=Hd (fun vs (hv:In3 vs) n hn=>wB (n:=n) hsp hv hn)
 have HSP:=Hd hsp
 have HCF:=Hd hc
 have HTR:=Hd htr
 have HST:=Hd hst
 have HPA:=Hd hpa
 have HNE:=Hd hN
 rw [hN] at hnb
 rw [hNN]
 clear htr hst hpa hsp hc hN hNN
 go_enter Tryz.func204,Tryz.ntmps204
 go_wp2_with fail
 refine (dB d _ (by omega) (by omega)).mono ?_
 rintro e w1 ⟨rfl,b1⟩
 have HB1:=Hd b1
 have hs1:=b1.size
 simp only [World.size_alloc] at hs1
 obtain ⟨hcc,hff⟩:=aO b1
 clear b1
 go_wp2_with fail
 refine (pV d TA m tc ts _ (HTR.out.below (aA HB0.out HB1.out)) HCF.out).mono ?_
 rintro e w2 ⟨DA,dc,rfl,o2,b2⟩
 have HB2:=Hd (aA HB1.out b2)
 have hs2:=b2.size
 have hdr:=o2.ints
 rw [←HNT.out] at hdr
 have HDR:=Hd hdr
 clear b2 o2 hcc hff hdr
 rw [←HNT.out]
 have N2:=Hd (Own.newAt (w:=w2) (base:=w2.heap.size) (g:=w2.heap.size) rfl (Nat.le_refl _))
 have hbn:=Hd (aB (Below.refl w2.heap.size w2) (.cells #[] 3))
 go_wp2_with fail
 go_loopw [11,12] (fun v i wr=>∃(k:Nat) (A:Option Addr) (c:Nat),k<=N/\i = .int .i64 k/\v = .slice A k c/\Own w2.heap.size wr A k c (List.replicate k (-1))/\Below w2.heap.size w2 wr) (fun _ i _=>N - (intOf i).toNat)
 case atStart=>exact ⟨0,_,0,by omega,rfl,rfl,N2.out,hbn.out⟩
 case round =>
  obtain ⟨k,A,c,hk,rfl,rfl,ho,hb⟩:=hrel
  have HO:=Hd ho
  have HB:=Hd hb
  have hs:=hb.size
  clear ho hb
  obtain ⟨hcc,hff⟩:=aO (aA HB2.out HB.out)
  by_cases hlt:k<N
  ·have hdk:decide ((k:Int)<(N:Int))=true:=by simp;omega
   go_wp2_with fail
   refine (HRN.out _).mono ?_
   rintro e w3 ⟨rfl,b3⟩
   have HB3:=Hd (aA HB.out b3)
   have HO3:=Hd (HO.out.below b3)
   have hs3:=b3.size
   clear b3 hcc hff
   go_wp2_with (at_builtin;refine ax rfl _ _ rfl w2.heap.size A k c _ (-1) rfl HO3.out rfl (by omega) (by omega) HB3.out ?_;rintro g4 c4 w4 o4 b4 - -)
   go_roundw
   case rel=>exact ⟨k+1,_,c4,by omega,by go_num,rfl,by rw [List.replicate_succ'];exact o4,b4⟩
   case measure=>simp [intOf];omega
  ·have hkN:k=N:=by omega
   have HKN:=Hd hkN
   have hdk:decide ((k:Int)<(N:Int))=false:=by simp;omega
   clear hkN
   go_wp2_with fail
   refine (HRN.out _).mono ?_
   rintro e w3 ⟨rfl,b3⟩
   have HB3:=Hd (aA HB.out b3)
   have ho3:=HO.out.below b3
   have hkn:=HKN.out
   subst hkn
   obtain ⟨g,cur,rfl,hgb,hgl,-⟩:=ho3.block (by omega)
   have HO3:=Hd ho3
   have hs3:=b3.size
   clear b3 hcc hff ho3
   have hdk2:decide ((k:Int)<(k:Int))=false:=by simp
   go_wp2_with fail
   go_loopw [13] (fun cq wr=>∃(cb:Bool) (vs:List Int),cq = .bool cb/\Own w2.heap.size wr (some ⟨g,0,none⟩) k c vs/\In3 vs/\zN d ts st pads k cb vs/\Below w2.heap.size w2 wr) (fun cq wr=>Hz cq wr g k)
   case atStart=>exact ⟨true,_,rfl,HO3.out,HIN.out 0,by unfold zN;rw [if_pos rfl];exact ⟨0,rfl,Nat.zero_le _⟩,HB3.out⟩
   case round =>
    obtain ⟨cb,vs,rfl,ho,hv3,hrv,hb⟩:=hrel
    have HVL:=Hd ho.len
    have HO:=Hd ho
    have HV3:=Hd hv3
    have HRV:=Hd hrv
    have HB:=Hd hb
    have HCN:=Hd (xP ho.ints)
    clear ho hv3 hrv hb
    cases cb with
    | false =>
     go_wp2_with fail
     go_ret
     exact ⟨_,c,rfl,by rw [←yB HRV.out HNT.out];exact HO.out.more (by omega),aA HB0.out (aA HB2.out HB.out)⟩
    | true =>
     obtain ⟨wo,rfl⟩:∃x,x=wr:=⟨wr,rfl⟩
     go_wp2_with fail
     go_loopw [13,14] (fun cq i wr=>∃(n:Nat) (cb:Bool),n<=k/\i = .int .i64 n/\cq = .bool cb/\cb=decide (jw vs<jw (bu d ts st pads vs n))/\Own w2.heap.size wr (some ⟨g,0,none⟩) k c (bu d ts st pads vs n)/\Below w2.heap.size w2 wr) (fun _ i _=>k - (intOf i).toNat)
     case atStart=>exact ⟨0,false,by omega,rfl,rfl,by simp [bu],HO.out,HB.out⟩
     case round =>
      obtain ⟨n,cb,hn,rfl,rfl,hcb,ho,hb⟩:=hrel
      have HCB:=Hd hcb
      have HO:=Hd ho
      have HB:=Hd hb
      clear hcb ho hb
      by_cases hlt:n<k
      ·have hdn:decide ((n:Int)<(k:Int))=true:=by simp;omega
       have hni:=HNI.out n hlt
       have HNIK:=Hd hni
       have HU3:=Hd (HSWI.out vs HV3.out n)
       have HSWS:Hid (bu d ts st pads vs (n+1)=ku d ts st pads (bu d ts st pads vs n) (n:Int)):=rfl
       have HCM:=Hd (pq d ts st pads vs n).1
       obtain ⟨_,n0,n1,hq0,hq1,hr0,hr1⟩:=dX hni
       have HTI:=Hd (gK hni)
       have hpe0:¬aM d=0:=by omega
       generalize bu d ts st pads vs n=us at *
       have hul:=HO.out.len
       have HUL:=Hd hul
       obtain ⟨zu,yu⟩:=HO.out.cellAt hlt
       have HUD:Hid (us[n]?.getD 0=nv us (n:Int)):=by show _=_;unfold nv;rw [Int.toNat_natCast]
       rw [HUD.out] at zu
       obtain ⟨hcc,hff⟩:=aO (aA HB2.out HB.out)
       have hgw:=(HO.out.lt _ rfl).2
       have j0:(0:Int)<=(n:Int):=by omega
       have j1:(n:Int)<(k:Int):=by omega
       have hsB:=HB.out.size
       have hwr0:w.heap.size<wr.heap.size:=by omega
       generalize hU:nv us (n:Int)=u at *
       have HU:=Hd hU
       clear hU hni hul
       by_cases hu0:u≥0
       ·have hdu:decide (u≥0)=true:=by simpa using hu0
        have HSM:=Hd (iU (d:=d) (ts:=ts) (st:=st) (pads:=pads) (us:=us) (n:=(n:Int)) (by rw [HU.out];exact fun h=>by have:=h.2.1;omega))
        clear hcc hff
        go_wp2_with fail
        go_roundw
        case rel=>exact ⟨n+1,cb,by omega,by go_num,rfl,by rw [HSWS.out,HSM.out];exact HCB.out,by rw [HSWS.out,HSM.out];exact HO.out,HB.out⟩
        case measure=>simp [intOf];omega
       ·have hdu:decide (u≥0)=false:=by simp;omega
        have HU0:Hid (nv us (n:Int)<0):=by show _<_;rw [HU.out];omega
        generalize hNO:bS d (n:Int)=bo at *
        have HNO:=Hd hNO
        have HOK:Hid (∀w',Calls Tryz.prog 184 #[.agg #[.int .i64 d.W,.int .i64 d.H,.int .i64 d.T,.int .i64 d.R],.int .i64 (n:Int)] w' fun e w''=>e = .returned (.bool bo)/\Below w'.heap.size w' w''):=fun w'=>by have h:=gU d (n:Int) w';rwa [hNO] at h
        clear hNO
        go_wp2_with fail
        refine (HOK.out _).mono ?_
        rintro e w5 ⟨rfl,b5⟩
        have HB5:=Hd (aA HB.out b5)
        have HO5:=Hd (HO.out.below b5)
        have hs5:=b5.size
        clear b5 hcc hff zu yu
        obtain ⟨hcc,hff⟩:=aO (aA HB2.out HB5.out)
        cases bo with
        | false =>
         have HSM:=Hd (iU (d:=d) (ts:=ts) (st:=st) (pads:=pads) (us:=us) (n:=(n:Int)) (by rw [HNO.out];simp))
         clear hcc hff
         go_wp2_with fail
         go_roundw
         case rel=>exact ⟨n+1,cb,by omega,by go_num,rfl,by rw [HSWS.out,HSM.out];exact HCB.out,by rw [HSWS.out,HSM.out];exact HO5.out,HB5.out⟩
         case measure=>simp [intOf];omega
        | true =>
         have hvb:=HNV.out us HU3.out (n:Int) HNIK.out
         have HSET:=Hd (EP (d:=d) (ts:=ts) (st:=st) (pads:=pads) (us:=us) (n:=(n:Int)) HU3.out HNO.out HU0.out hvb.1)
         have HFL:=Hd (EQ (d:=d) (ts:=ts) (st:=st) (pads:=pads) (vs:=vs) (us:=us) (n:=(n:Int)) (cb:=cb) HCB.out HCM.out (by rw [Int.toNat_natCast,HUL.out];exact hlt) HNO.out HU0.out)
         rw [Int.toNat_natCast] at HSET
         generalize hNW:iw d ts st pads us (n:Int)=nw at *
         have HNW:=Hd hNW
         generalize hpin:(n:Int) % aM d=pin at *
         generalize hq:(n:Int) / aM d=q at *
         have HPQ:=Hd (And.intro hpin hq)
         obtain ⟨ev,hev⟩:∃ev,pin - 5=ev:=⟨_,rfl⟩
         have HEV:=Hd hev
         have ev0:-5<=ev:=by omega
         have ev1:ev<=pin:=by omega
         have hgw5:g<w5.heap.size:=by omega
         have hw5:w.heap.size<w5.heap.size:=by omega
         clear hNW hcc hff
         go_upto_block 6 with fail
         clear hpin hq hev
         go_cut [] from 33 to 155 (fun wx=>Own w2.heap.size wx (some ⟨g,0,none⟩) k c (us.set n nw)/\Below w2.heap.size w2 wx)
         case first =>
          by_cases h5:pin=5∨pin=6
          ·have he01:ev=0∨ev=1:=by have:=HEV.out;omega
           have HVE0:=Hd (yC (d:=d) (ts:=ts) (st:=st) (pads:=pads) (us:=us) (n:=(n:Int)) (by rw [HPQ.out.1];omega))
           rw [HNW.out,HPQ.out.1,HPQ.out.2,HEV.out] at HVE0
           clear h5
           go_upto_region 18 with fail
           go_cut [66] from 33 to 155 (fun s66 wx=>s66 = .bool false/\w5=wx)
           case first =>
            rcases he01 with he01|he01
            ·have b0:(ev==0)=true:=by rw [beq_iff_eq];omega
             have b0':(ev != 0)=false:=by rw [bne_eq_false_iff_eq];omega
             clear he01
             go_wp2_with fail
             go_meet
             exact ⟨rfl,rfl⟩
            ·have b0:(ev==0)=false:=by rw [beq_eq_false_iff_ne];omega
             have b0':(ev != 0)=true:=by rw [bne_iff_ne];omega
             have b1:(ev==1)=true:=by rw [beq_iff_eq];omega
             have b1':(ev != 1)=false:=by rw [bne_eq_false_iff_eq];omega
             clear he01
             go_wp2_with fail
             go_meet
             exact ⟨rfl,rfl⟩
           obtain ⟨rfl,rfl⟩:=hcut
           obtain ⟨en,rfl⟩:∃en:Nat,ev=(en:Int):=⟨ev.toNat,by omega⟩
           have hen:en<2:=by omega
           clear he01
           obtain ⟨hcc,hff⟩:=aO (aA HB2.out HB5.out)
           obtain ⟨hlf,hl2,htl,hf⟩:=uD (e:=(en:Int)) HCF.out HTI.out (by omega)
           obtain ⟨hdq,tq0,tq1⟩:=aV.1 HTI.out
           obtain ⟨b,o,S,m3,p,L,l,lq,rfl,hbt,ca,cl,cp,cr,-,rl⟩:=HTR.out.tile htl
           change w.cell? ⟨b,o+q.toNat * 4+2,none⟩=some (.int .i64 (di ts q).pad) at cp
           change RdC w w.heap.size (qG (di ts q).les) (.slice L l lq) at rl
           have hll:=rl.elen
           obtain ⟨bl,ol,S4,m4,p4,rfl,hbl,d0,d1,d2,d3,r4⟩:=rl.le (k:=en) (by omega)
           have d2':w.cell? ⟨bl,ol+en * 4+2,none⟩=some (.int .i64 (fK ts q (en:Int)).flop):=d2
           have htt:=HTR.out.tlen
           have hl:l=2:=by rw [←hll];exact hl2
           subst hl
           obtain ⟨bs,os,rfl,hbs,hcs⟩:=HST.out.2 (by omega)
           obtain ⟨bp,op,rfl,hbp,hcp⟩:=HPA.out.2 (by omega)
           have hpad:=hcp q.toNat (by omega)
           change w.cell? ⟨bp,op+q.toNat,none⟩=some (.int .i64 (nv pads q)) at hpad
           have hs0:=hcs (2 * q+(en:Int)).toNat (by omega)
           change w.cell? ⟨bs,os+(2 * q+(en:Int)).toNat,none⟩=some (.int .i64 (nv st (2 * q+(en:Int)))) at hs0
           have HPF:Hid (sW d ts st pads us q (en:Int)=if ah d q=0 then (if (di ts q).pad=1 then nv pads q else 0) else if ah d q=2 then nv st (2 * q) % 2 else if (fK ts q (en:Int)).flop=1 then nv st (2 * q+(en:Int)) else lm d us q (fK ts q (en:Int))):=rfl
           have HPB:=Hd (fun h=>HSP.out.pad q HTI.out h)
           have HRB:=Hd (fun h=>HSP.out.ram q HTI.out h)
           have hra:=hcs (2 * q).toNat (by omega)
           change w.cell? ⟨bs,os+(2 * q).toNat,none⟩=some (.int .i64 (nv st (2 * q))) at hra
           have HLUT:=Hd (fun w' (hb:Below w.heap.size w w') hv=>Bf d ts (some ⟨b,o,none⟩) m tc k (some ⟨g,0,none⟩) c us q (en:Int) w' (HTR.out.below hb) hv HU3.out HNE.out.symm HCF.out HTI.out (by omega))
           have HTK:=Hd (fun w'=>ed d q w' HTI.out)
           obtain ⟨qn,rfl⟩:=Int.eq_ofNat_of_zero_le tq0
           have hs1:(2 * (qn:Int)+(en:Int)).toNat=2 * qn+en:=by omega
           have hs2':(2 * (qn:Int)).toNat=2 * qn:=by omega
           rw [hs1] at hs0
           rw [hs2'] at hra
           rw [Int.toNat_natCast] at ca cl cp cr htl hpad
           have i0:(0:Int)<=(qn:Int):=tq0
           have i1:(qn:Int)<(m:Int):=by omega
           have i2:(qn:Int)<(pn:Int):=by omega
           have i3:2 * (qn:Int)<(sn:Int):=by omega
           have i4:2 * (qn:Int)+(en:Int)<(sn:Int):=by omega
           have i5:(0:Int)<=(en:Int):=by omega
           have i6:(en:Int)<2:=by omega
           have i7:(0:Int)<=2 * (qn:Int)+(en:Int):=by omega
           clear hlf hl2 hf rl r4 htt hll d0 d1 d2 d3 hcs hcp htl hdq tq1 tq0
           have hk3:=df d (qn:Int)
           generalize ah d (qn:Int)=K at *
           generalize di ts (qn:Int)=tl at *
           generalize fK ts (qn:Int) (en:Int)=le at *
           generalize hlv:lm d us (qn:Int) le=lv at *
           generalize nv pads (qn:Int)=vp at *
           generalize nv st (2 * (qn:Int)+(en:Int))=v1 at *
           generalize nv st (2 * (qn:Int))=v0 at *
           clear hlv
           go_wp2_with fail
           refine (HTK.out _).mono ?_
           rintro e' w6 ⟨rfl,b6⟩
           have HB6:=Hd (aA HB5.out b6)
           have HO6:=Hd (HO5.out.below b6)
           have hs6:=b6.size
           clear b6 hcc hff
           obtain ⟨hcc,hff⟩:=aO (aA HB2.out HB6.out)
           have hgw6:g<w6.heap.size:=by omega
           have hw6:w.heap.size<w6.heap.size:=by omega
           have l1:bs<w6.heap.size:=by omega
           have l2:bp<w6.heap.size:=by omega
           have l3:bl<w6.heap.size:=by omega
           have l4:b<w6.heap.size:=by omega
           rcases hk3 with rfl|rfl|rfl
           ·obtain ⟨zk,yk⟩:=HO6.out.cellAt hlt
            have hpb:=HPB.out rfl
            have hcase:(tl.pad=1/\vp=1)∨((tl.pad=1/\vp=0)∨¬tl.pad=1):=by omega
            rcases hcase with ⟨hp1,hp2⟩|hrest
            ·have q1:(tl.pad==1)=true:=by simpa using hp1
             have HVE:Hid (nw=1):=by show _=_;rw [HVE0.out,HPF.out,if_pos rfl,if_pos hp1,hp2]
             have HL7:=Hd sF
             subst hp2
             clear hp1 hpb
             go_wp2_with (go_at_call 130;refine (HL7.out _).mono ?_;rintro e' w' ⟨rfl,rfl⟩)
             go_meet
             exact ⟨by rw [HVE.out];exact HO6.out.stored hlt 1,HB6.out.setCell (p:=⟨g,n,none⟩) hgb _⟩
            ·have HVE:Hid (nw=0):=by
              show _=_
              rw [HVE0.out,HPF.out,if_pos rfl]
              rcases hrest with ⟨hp1,hp2⟩|hp1
              ·rw [if_pos hp1,hp2]
              ·rw [if_neg hp1]
             have HL7:=Hd sG
             rcases hrest with ⟨hp1,hp2⟩|hp1
             ·have q1:(tl.pad==1)=true:=by simpa using hp1
              subst hp2
              clear hp1 hpb
              go_wp2_with (go_at_call 130;refine (HL7.out _).mono ?_;rintro e' w' ⟨rfl,rfl⟩)
              go_meet
              exact ⟨by rw [HVE.out];exact HO6.out.stored hlt 0,HB6.out.setCell (p:=⟨g,n,none⟩) hgb _⟩
             ·have q1:(tl.pad==1)=false:=by simpa using hp1
              clear hp1 hpb
              go_wp2_with (go_at_call 130;refine (HL7.out _).mono ?_;rintro e' w' ⟨rfl,rfl⟩)
              go_meet
              exact ⟨by rw [HVE.out];exact HO6.out.stored hlt 0,HB6.out.setCell (p:=⟨g,n,none⟩) hgb _⟩
           ·go_wp2_with fail
            refine (HTK.out _).mono ?_
            rintro e' w7 ⟨rfl,b7⟩
            have HB7:=Hd (aA HB6.out b7)
            have HO7:=Hd (HO6.out.below b7)
            have hs7:=b7.size
            clear b7 hcc hff
            obtain ⟨hcc,hff⟩:=aO (aA HB2.out HB7.out)
            have hgw7:g<w7.heap.size:=by omega
            have hw7:w.heap.size<w7.heap.size:=by omega
            have l1:bs<w7.heap.size:=by omega
            have l3:bl<w7.heap.size:=by omega
            have l4:b<w7.heap.size:=by omega
            by_cases hp1:le.flop=1
            ·have q1:(le.flop==1)=true:=by simpa using hp1
             have HVE:Hid (nw=v1):=by show _=_;rw [HVE0.out,HPF.out,if_neg (by omega),if_neg (by omega),if_pos hp1]
             obtain ⟨zk,yk⟩:=HO7.out.cellAt hlt
             clear hp1
             go_wp2_with fail
             go_meet
             exact ⟨by rw [HVE.out];exact HO7.out.stored hlt v1,HB7.out.setCell (p:=⟨g,n,none⟩) hgb _⟩
            ·have q1:(le.flop==1)=false:=by simpa using hp1
             have HVE:Hid (nw=lv):=by show _=_;rw [HVE0.out,HPF.out,if_neg (by omega),if_neg (by omega),if_neg hp1]
             clear hp1
             go_wp2_with fail
             refine (HLUT.out _ (aA HB0.out (aA HB2.out HB7.out)) HO7.out.ints).mono ?_
             rintro e' w8 ⟨rfl,b8⟩
             have HB8:=Hd (aA HB7.out b8)
             have HO8:=Hd (HO7.out.below b8)
             have hs8:=b8.size
             clear b8 hcc hff
             have hgw8:g<w8.heap.size:=by omega
             obtain ⟨zk,yk⟩:=HO8.out.cellAt hlt
             go_wp2_with fail
             go_meet
             exact ⟨by rw [HVE.out];exact HO8.out.stored hlt lv,HB8.out.setCell (p:=⟨g,n,none⟩) hgb _⟩
           ·have hrb:=HRB.out rfl
            have HA1:=Hd (IB hrb.1 hrb.2)
            have HVE:Hid (nw=v0 % 2):=by show _=_;rw [HVE0.out,HPF.out,if_neg (by omega),if_pos rfl]
            have hm0:0<=v0 % 2:=by omega
            go_wp2_with fail
            refine (HTK.out _).mono ?_
            rintro e' w7 ⟨rfl,b7⟩
            have HB7:=Hd (aA HB6.out b7)
            have HO7:=Hd (HO6.out.below b7)
            have hs7:=b7.size
            clear b7 hcc hff
            obtain ⟨hcc,hff⟩:=aO (aA HB2.out HB7.out)
            have hgw7:g<w7.heap.size:=by omega
            have hw7:w.heap.size<w7.heap.size:=by omega
            have l1:bs<w7.heap.size:=by omega
            have ha1:=HA1.out
            obtain ⟨zk,yk⟩:=HO7.out.cellAt hlt
            go_wp2_with fail
            go_meet
            exact ⟨by rw [HVE.out];exact HO7.out.stored hlt (v0 % 2),HB7.out.setCell (p:=⟨g,n,none⟩) hgb _⟩
          ·have HND:=Hd (fun h=>yD (d:=d) (ts:=ts) (st:=st) (pads:=pads) (us:=us) (n:=(n:Int)) (by rw [HPQ.out.1];exact h5) h)
           have HNN:=Hd (fun h=>wO (d:=d) (ts:=ts) (st:=st) (pads:=pads) (us:=us) (n:=(n:Int)) (by rw [HPQ.out.1];exact h5) h)
           rw [HNW.out] at HND HNN
           have HDI:=Hd (fun h=>HDN.out (n:Int) h)
           have g0:(ev==0)=false:=by have:=HEV.out;rw [beq_eq_false_iff_ne];omega
           have g0':(ev != 0)=true:=by have:=HEV.out;rw [bne_iff_ne];omega
           have g1:(ev==1)=false:=by have:=HEV.out;rw [beq_eq_false_iff_ne];omega
           have g1':(ev != 1)=true:=by have:=HEV.out;rw [bne_iff_ne];omega
           obtain ⟨bd,od,rfl,hbd,hcd⟩:=HDR.out.2 (by omega)
           have cd:=(HB5.out.cell (p:=⟨bd,od+n,none⟩) hbd).trans (hcd n hlt)
           rw [qJ hlt] at cd
           have cdf:=dC (q:=⟨g,n,none⟩) (v := .int .i64 0) cd (by dsimp only;omega)
           generalize fV d ts (n:Int)=s at *
           have HOS:=Hd (HO5.out.stored hlt 0)
           have HBS:=Hd (HB5.out.setCell (p:=⟨g,n,none⟩) hgb (.int .i64 0))
           have hgs:g<(w5.setCell ⟨g,n,none⟩ (.int .i64 0)).heap.size:=by rw [World.size_setCell];exact hgw5
           obtain ⟨zk,yk⟩:=HO5.out.cellAt hlt
           clear h5 hcd cd
           by_cases hs0:s≥0
           ·have hds:decide (s≥0)=true:=by simpa using hs0
            have hsne:=(HDI.out hs0).2
            have hsN:=(iQ.1 (HDI.out hs0).1).2.2
            obtain ⟨sn',rfl⟩:=Int.eq_ofNat_of_zero_le hs0
            have hsNN:sn'<k:=by have:=HNE.out;omega
            have hsne':sn'≠n:=by omega
            have HVE:=Hd (HND.out hs0)
            obtain ⟨zs,ys⟩:=HOS.out.cellAt (k:=sn') hsNN
            obtain ⟨zn,yn⟩:=HOS.out.cellAt (k:=n) hlt
            have HUD2:Hid ((us.set n 0)[sn']?.getD 0=nv us (sn':Int)):=by show _=_;unfold nv;rw [Int.toNat_natCast,List.getElem?_set,if_neg (fun h=>hsne' h.symm)]
            rw [HUD2.out] at zs
            have m0:(0:Int)<=(sn':Int):=by omega
            have m1:(sn':Int)<(k:Int):=by omega
            have HOT:=Hd (fun v=>HOS.out.stored hlt v)
            generalize nv us (sn':Int)=v at *
            clear hsN hsne
            go_wp2_with fail
            go_meet
            exact ⟨by rw [HVE.out];exact (by have h:=HOT.out v;rwa [List.set_set] at h),HBS.out.setCell (p:=⟨g,n,none⟩) hgb _⟩
           ·have hds:decide (s≥0)=false:=by simp;omega
            have HVE:=Hd (HNN.out (by omega))
            go_wp2_with fail
            go_meet
            exact ⟨by rw [HVE.out];exact HOS.out,HBS.out⟩
         obtain ⟨ho8,hb8⟩:=hcut
         have HO8:=Hd ho8
         have HB8:=Hd hb8
         have hs8:=hb8.size
         clear ho8 hb8
         have hgw8:g<wc.heap.size:=(HO8.out.lt _ rfl).2
         obtain ⟨z8,y8⟩:=HO8.out.cellAt hlt
         have HSN:Hid ((us.set n nw)[n]?.getD 0=nw):=by show _=_;rw [List.getElem?_set,if_pos rfl,if_pos (by rw [HUL.out];exact hlt)];rfl
         rw [HSN.out] at z8
         have hcv:(cb=true∨(cb=false/\nw≥0))∨(cb=false/\¬nw≥0):=by cases cb <;> simp <;> omega
         rcases hcv with (hcb0|⟨hcb0,hv0⟩)|⟨hcb0,hv0⟩
         ·subst hcb0
          go_wp2_with fail
          go_roundw
          case rel=>exact ⟨n+1,true,by omega,by go_num,rfl,by rw [HSWS.out,←HFL.out];rfl,by rw [HSWS.out,HSET.out];exact HO8.out,HB8.out⟩
          case measure=>simp [intOf];omega
         ·subst hcb0
          have hdv:decide (nw≥0)=true:=by simpa using hv0
          go_wp2_with fail
          go_roundw
          case rel=>exact ⟨n+1,true,by omega,by go_num,rfl,by rw [HSWS.out,←HFL.out,hdv];rfl,by rw [HSWS.out,HSET.out];exact HO8.out,HB8.out⟩
          case measure=>simp [intOf];omega
         ·subst hcb0
          have hdv:decide (nw≥0)=false:=by simp;omega
          go_wp2_with fail
          go_roundw
          case rel=>exact ⟨n+1,false,by omega,by go_num,rfl,by rw [HSWS.out,←HFL.out,hdv];rfl,by rw [HSWS.out,HSET.out];exact HO8.out,HB8.out⟩
          case measure=>simp [intOf];omega
      ·have hnk:n=k:=by omega
       have HNK:=Hd hnk
       have hdn:decide ((n:Int)<(k:Int))=false:=by simp;omega
       clear hnk
       have HNX:=Hd (yA HRV.out cb (by rw [←HNK.out];exact HCB.out) HVL.out)
       have HLE:=Hd (sZ (bu d ts st pads vs n))
       have HSL:=Hd (jh d ts st pads vs n)
       have HC2:=Hd (xP HO.out.ints)
       go_wp2_with fail
       go_roundw
       case rel=>exact ⟨cb,_,rfl,HO.out,HSWI.out _ HV3.out n,by have h:=HNX.out;rw [←HNK.out] at h ⊢;exact h,HB.out⟩
       case measure =>
        have h1:=HC2.out
        have h2:=HCN.out
        have h3:=HLE.out
        rw [HSL.out,HVL.out] at h3
        have h4:=HCB.out
        have h5:=sZ vs
        rw [HVL.out] at h5
        cases cb with
        | true =>
         show k+1 - EO wr g k<k+1 - EO wo g k
         rw [h1,h2]
         have:=of_decide_eq_true h4.symm
         omega
        | false =>
         show 0<k+1 - EO wo g k
         rw [h2]
         omega
end Go.Proofs.YtignkfhdkcgkgaaGreat
