/- The law's own functions over networks of look-up tables: comparing, marking, holding. Networks of look-up tables in the frame of a law: comparing, marking and holding them. How large the network is that a configured device is read back to. Plain lemmas. -/
import Derived.Test.YtignkfhdkcgkgaaNet
import Derived.Test.YtignkfhdkcgkgaaSepN
import Derived.Test.YtignkfhdkcgkgaaTileHar
namespace Go.Proofs.Ytignkfhdkcgkgaa
set_option maxRecDepth 100000
open Go.RowKit

theorem RdC.lut {w:World} {B n c k:Nat} {A:Option Addr} {xs:List Lt} (h:RdC w B (celLt xs) (.slice A n c)) (hk:k<xs.length) :
  ∃b o S m p,A=some ⟨b,o,none⟩∧b<B∧w.cell? ⟨b,o+k * 2,none⟩=some (.slice S m p)∧w.cell? ⟨b,o+k * 2+1,none⟩=some (.int .i64 (xs[k]?.getD Lt.zero).mask)∧RdC w B (celI (xs[k]?.getD Lt.zero).ins) (.slice S m p):=by
 have hl:=flatS_length Lt.cells_length xs
 obtain ⟨b,o,rfl,hb,hc⟩:=h.cell (by rw [hl];omega)
 have hx:=getD_some Lt.zero hk
 generalize xs[k]?.getD Lt.zero=t at *
 have g:=fun (j:Nat) (hj:j<2)=>hc (k * 2+j) (by rw [hl];omega)
 obtain ⟨c0,v0,e0,m0,r0⟩:=g 0 (by omega)
 obtain ⟨c1,v1,e1,m1,r1⟩:=g 1 (by omega)
 rw [flatS_at Lt.cells_length hx (by omega)] at e0 e1
 simp only [Lt.cells,List.getElem?_cons_zero,List.getElem?_cons_succ,Option.some.injEq] at e0 e1
 subst e0 e1
 rw [rdC_int] at r1
 subst r1
 obtain ⟨S,m,p,rfl⟩:=rdC_slice (e:=3) (s:=1) r0
 exact ⟨b,o,S,m,p,rfl,hb,m0,m1,r0⟩
theorem RdC.lutN {w:World} {B n c:Nat} {A:Option Addr} {xs:List Lt} (h:RdC w B (celLt xs) (.slice A n c)):xs.length=n:=by
 have:=RdC.len h
 rw [flatS_length Lt.cells_length] at this
 omega
theorem OwnC.lutN {w:World} {n c:Nat} {A:Option Addr} {F:List Nat} {xs:List Lt} (h:OwnC w (celLt xs) (.slice A n c) F):xs.length=n:=RdC.lutN (OwnC.rd h)
theorem OwnC.lutIns {w:World} {n c i:Nat} {A:Option Addr} {F:List Nat} {xs:List Lt} {x:Lt} (h:OwnC w (celLt xs) (.slice A n c) F) (hF:F.Nodup) (hx:xs[i]?=some x) :
  ∃g S m p,A=some ⟨g,0,none⟩∧w.cell? ⟨g,i * 2,none⟩=some (.slice S m p)∧Own 0 w S m p x.ins∧(∀k∈blk S,k∈F) ∧
   ∀(w':World) (zs:List Int),Own 0 w' S m p zs→Only (blk S) w w'→OwnC w' (celLt (xs.set i { x with ins:=zs })) (.slice A n c) F:=by
 obtain ⟨g,v,Fj,rfl,hg,hc,ho,_,_,hsub,hup⟩:=h.child hF (j:=i * 2+0) (flatS_at Lt.cells_length hx (by omega))
 obtain ⟨S,m,p,rfl⟩:=ownC_slice (e:=3) (s:=1) ho
 obtain ⟨ho2,rfl⟩:=ownC_ints.1 ho
 refine ⟨g,S,m,p,rfl,hc,ho2,hsub,fun w' zs hz hon=>?_⟩
 have:=hup w' (celI zs) (ownC_ints.2 ⟨hz,rfl⟩) hon
 rw [flatS_set Lt.cells_length (y:={ x with ins:=zs }) hx (by omega) rfl] at this
 exact this
theorem OwnC.lutNums {w:World} {n c i:Nat} {A:Option Addr} {F:List Nat} {xs:List Lt} {x:Lt} (h:OwnC w (celLt xs) (.slice A n c) F) (hF:F.Nodup) (hx:xs[i]?=some x) :
  ∃g,A=some ⟨g,0,none⟩∧g∈F∧w.cell? ⟨g,i * 2+1,none⟩=some (.int .i64 x.mask)∧w.frozen? ⟨g,i * 2+1,none⟩=false ∧
   ∀a:Int,OwnC (w.setCell ⟨g,i * 2+1,none⟩ (.int .i64 a)) (celLt (xs.set i { x with mask:=a })) (.slice A n c) F:=by
 have hi:=(List.getElem?_eq_some_iff.1 hx).1
 obtain ⟨g,rfl,hg,c1,f1,u1⟩:=h.num hF (j:=i * 2+1) (flatS_at Lt.cells_length hx (by omega))
 refine ⟨g,rfl,hg,c1,f1,fun a=>?_⟩
 have q1:=u1 a
 rw [flatS_set Lt.cells_length (y:={ x with mask:=a }) hx (by omega) rfl] at q1
 exact q1
def lutCnt (x:Lt):Nat:=x.ins.length+1
def lutSum (xs:List Lt):Nat→Nat
 | 0=>0
 | k+1=>lutSum xs k+lutCnt (xs[k]?.getD Lt.zero)
def mkLt (k:Int) (x:Lt):Lt:=⟨iota k x.ins.length,k+x.ins.length⟩
def mkLtsP (k:Int) (xs:List Lt) (j:Nat):List Lt:=(List.range xs.length).map fun (i:Nat)=>if i<j then mkLt (k+lutSum xs i) (xs[i]?.getD Lt.zero) else xs[i]?.getD Lt.zero
def mkLts (k:Int) (xs:List Lt):List Lt:=mkLtsP k xs xs.length
theorem mkLtsP_get {k:Int} {xs:List Lt} {j:Nat} (h:j<xs.length):(mkLtsP k xs j)[j]?=some (xs[j]?.getD Lt.zero):=by
 unfold mkLtsP
 rw [mapP_get h,if_neg (by omega)]
theorem mkLtsP_length (k:Int) (xs:List Lt) (j:Nat):(mkLtsP k xs j).length=xs.length:=by simp [mkLtsP]
theorem mkLtsP_set {k:Int} {xs:List Lt} {j:Nat} (h:j<xs.length):(mkLtsP k xs j).set j (mkLt (k+lutSum xs j) (xs[j]?.getD Lt.zero))=mkLtsP k xs (j+1):=mapP_set (g:=fun i=>mkLt (k+lutSum xs i) (xs[i]?.getD Lt.zero)) h
theorem mkLts_get {k:Int} {xs:List Lt} {j:Nat} (h:j<xs.length):(mkLts k xs)[j]?.getD Lt.zero=mkLt (k+lutSum xs j) (xs[j]?.getD Lt.zero):=by
 unfold mkLts mkLtsP
 rw [mapP_get h,if_pos h]
 rfl
theorem lutSum_le (xs : List Lt) {j k : Nat} (h : j ≤ k) : lutSum xs j ≤ lutSum xs k := by
  induction k with
  | zero => obtain rfl : j = 0 := by omega
            exact Nat.le_refl _
  | succ k ih =>
    rcases Nat.lt_or_ge j (k + 1) with h1 | h1
    · have := ih (by omega)
      rw [lutSum]
      omega
    · obtain rfl : j = k + 1 := by omega
      exact Nat.le_refl _
theorem lutSum_ge (xs:List Lt) (k:Nat):k≤lutSum xs k:=by
 induction k with
 | zero=>exact Nat.le_refl _
 | succ k ih=>rw [lutSum,lutCnt];omega
def BdLts (xs:List Lt):Prop:=xs.length≤1099511627776∧∀i:Nat,(xs[i]?.getD Lt.zero).ins.length≤1099511627776
set_option maxHeartbeats 1000000 in
theorem eqLut_same (A B:Option Addr) (n m c d:Nat) (y1:Int) (xs:List Int) (w:World) (hA:Ints w A n xs) (hB:Ints w B m xs) (hn:n≤1099511627776) :
  Calls Try.prog 58 #[.agg #[.slice A n c,.int .i64 y1],.agg #[.slice B m d,.int .i64 y1]] w fun e w'=>e = .returned (.bool true)∧Below w.heap.size w w':=by
 have HA:=Lib.hid hA
 have HB:=Lib.hid hB
 have hb0:Below w.heap.size w ((w.alloc (.cells #[.slice A n c,.int .i64 y1] 56)).alloc (.cells #[.slice B m d,.int .i64 y1] 56)):=below_new (below_new (Below.refl _ _) _) _
 clear hA hB
 go_enter Try.func58,Try.ntmps58
 go_wp2_with fail
 refine (eqIntS_same A B n m c d xs _ (HA.out.below hb0) (HB.out.below hb0) hn).mono ?_
 rintro e w1 ⟨rfl,b1⟩
 obtain ⟨hcc,hff⟩:=bcell b1
 have B1:=Lib.hid (below_tr hb0 b1)
 clear b1 hb0
 go_wp2_with fail
 go_ret
 exact ⟨rfl,B1.out⟩
set_option maxHeartbeats 1000000 in
theorem eqLutS_same (A B:Option Addr) (n m c d:Nat) (xs:List Lt) (w:World) (hA:RdC w w.heap.size (celLt xs) (.slice A n c)) (hB:RdC w w.heap.size (celLt xs) (.slice B m d)) (hz:BdLts xs) :
  Calls Try.prog 34 #[.slice A n c,.slice B m d] w fun e w'=>e = .returned (.bool true)∧Below w.heap.size w w':=by
 have hx:=hA.lutN
 have hy:=hB.lutN
 obtain ⟨hn,hrow⟩:=hz
 rw [hx] at hn
 obtain rfl:m=n:=by omega
 have HA:=Lib.hid hA
 have HB:=Lib.hid hB
 have HX:=Lib.hid hx
 have HR:=Lib.hid hrow
 clear hx hy hrow hA hB
 go_enter Try.func34,Try.ntmps34
 go_wp2_with fail
 go_loopw [5] (fun i wr=>∃k:Nat,k≤m∧i = .int .i64 k∧Below w.heap.size w wr) (fun i _=>m - (intOf i).toNat)
 case atStart=>exact ⟨0,Nat.zero_le _,rfl,Below.refl _ _⟩
 case round =>
  obtain ⟨k,hk,rfl,hbe⟩:=hrel
  by_cases hlt:k<m
  ·obtain ⟨b,o,S,l,p,rfl,hb,c0,c1,r0⟩:=(HA.out.below hbe).lut (k:=k) (by rw [HX.out];exact hlt)
   obtain ⟨b',o',S',l',p',rfl,hb',d0,d1,r0'⟩:=(HB.out.below hbe).lut (k:=k) (by rw [HX.out];exact hlt)
   have hrl:=HR.out k
   generalize xs[k]?.getD Lt.zero=e at *
   have J1:=Lib.hid r0.ints.drewd
   have J2:=Lib.hid r0'.ints.drewd
   have hl:l≤1099511627776:=by have:=r0.ints.1;omega
   have i0:(0:Int)≤(k:Int):=by omega
   have i1:(k:Int)<(m:Int):=by omega
   have HE:=Lib.hid hbe.drew
   clear r0 r0' hbe hrl
   go_wp2_with fail
   go_region_held3 (fun w'=>Below w.heap.size w w'∧w'.cell? ⟨b,o+k * 2,none⟩=some (.slice S l p)∧w'.cell? ⟨b,o+k * 2+1,none⟩=some (.int .i64 e.mask)∧w'.cell? ⟨b',o'+k * 2,none⟩=some (.slice S' l' p')∧w'.cell? ⟨b',o'+k * 2+1,none⟩=some (.int .i64 e.mask))
    (first
     | exact ⟨HE.out,c0,c1,d0,d1⟩
     | exact ⟨below_tr HE.out b3,(b3.cell (p:=⟨b,o+k * 2,none⟩) hb).trans c0,(b3.cell (p:=⟨b,o+k * 2+1,none⟩) hb).trans c1,(b3.cell (p:=⟨b',o'+k * 2,none⟩) hb').trans d0,(b3.cell (p:=⟨b',o'+k * 2+1,none⟩) hb').trans d1⟩)
    (first|(go_at_call 58;(with_reducible refine (eqLut_same S S' l l' p p' e.mask e.ins _ J1.out J2.out hl).mono ?_);rintro e3 w3 ⟨rfl,b3⟩))
   rename_i hH
   have hE3:=hH.1
   clear hH
   go_wp2_with fail
   go_roundw
   case rel=>exact ⟨k+1,by omega,by go_num,hE3⟩
   case measure=>simp [intOf];omega
  ·have hkn:m=k:=by omega
   subst hkn
   go_wp2_with fail
   go_ret
   exact ⟨rfl,hbe⟩
set_option maxHeartbeats 2000000 in
theorem markLutS_any (A:Option Addr) (n c:Nat) (xs:List Lt) (F:List Nat) (k0:Int) (w:World) (h:OwnC w (celLt xs) (.slice A n c) F) (hF:F.Nodup) (hk0:0≤k0) (hk1:k0≤2199023255552) (hz:lutSum xs n≤1099511627776) :
  Calls Try.prog 36 #[.slice A n c,.int .i64 k0] w fun e w'=>e = .returned (.int .i64 (k0+lutSum xs n))∧OwnC w' (celLt (mkLts k0 xs)) (.slice A n c) F∧Only F w w':=by
 have hx:=h.lutN
 have hnb:n≤1099511627776:=Nat.le_trans (lutSum_ge xs n) hz
 have HX:=Lib.hid hx
 have HO:=Lib.hid h
 have HFN:=Lib.hid hF
 clear hx h hF
 go_enter Try.func36,Try.ntmps36
 go_wp2_with fail
 go_loopw [1,5] (fun v i wr=>∃k:Nat,k≤n∧i = .int .i64 k∧v = .int .i64 (k0+lutSum xs k)∧OwnC wr (celLt (mkLtsP k0 xs k)) (.slice A n c) F∧Only F w wr) (fun _ i _=>n - (intOf i).toNat)
 case atStart=>exact ⟨0,Nat.zero_le _,rfl,by simp [lutSum],by unfold mkLtsP;rw [mapP_zero];exact HO.out,Only.refl _ _⟩
 case round =>
  obtain ⟨k,hk,rfl,rfl,ho,hg⟩:=hrel
  have HG:=Lib.hid hg
  clear hg
  by_cases hlt:k<n
  ·have HMS:=Lib.hid (mkLtsP_set (k:=k0) (xs:=xs) (j:=k) (by rw [HX.out];exact hlt))
   have hg0:=mkLtsP_get (k:=k0) (xs:=xs) (j:=k) (by rw [HX.out];exact hlt)
   have HML:=Lib.hid (show k<(mkLtsP k0 xs k).length by rw [mkLtsP_length,HX.out];exact hlt)
   have HN:=Lib.hid (lutSum.eq_2 xs k)
   have hle:=lutSum_le xs (j:=k+1) (k:=n) (by omega)
   rw [lutSum] at hle
   generalize xs[k]?.getD Lt.zero=e at *
   generalize mkLtsP k0 xs k=ys at *
   generalize lutSum xs k=s at *
   obtain ⟨b,S,m,p,rfl,c0,o1,hsub,hup⟩:=ho.lutIns HFN.out hg0
   have hm:m=e.ins.length:=o1.len.symm
   have hcn:lutCnt e=m+1:=by rw [hm];rfl
   have HM:=Lib.hid hm
   have HCN:=Lib.hid hcn
   have O1:=Lib.hid o1
   have HUP:=Lib.hid hup
   have HSUB:=Lib.hid hsub
   rw [hcn] at hle
   have hms:s+m+1≤1099511627776:=by omega
   have i0:(0:Int)≤(k:Int):=by omega
   have i1:(k:Int)<(n:Int):=by omega
   clear ho o1 hup hsub hm hcn hg0 hle
   go_wp2_with fail
   refine (markIntS_any 0 S m p _ _ _ O1.out (by omega) (by omega) (by omega)).mono ?_
   rintro e' w2 ⟨rfl,o2,g2⟩
   have on:=only_grown g2
   have U2:=HUP.out w2 _ o2 on
   have HG2:=Lib.hid (HG.out.trans (on.more HSUB.out))
   have hx2:(ys.set k { e with ins:=iota (k0+s) m })[k]?=some { e with ins:=iota (k0+s) m }:=List.getElem?_set_self HML.out
   obtain ⟨b',hb',hbF,d1,f1,hfin⟩:=U2.lutNums HFN.out hx2
   injection hb' with hb'
   injection hb' with hb'
   subst hb'
   have HFIN:=Lib.hid hfin
   simp only at d1
   clear o2 g2 on U2 hx2 hfin c0
   go_wp2_with fail
   go_roundw
   case rel =>
    have q:=HFIN.out (k0+s+m)
    rw [List.set_set] at q
    refine ⟨k+1,by omega,by go_num,by rw [HN.out,HCN.out];congr 1;omega,?_,HG2.out.trans (only_set (p:=⟨b,k * 2+1,none⟩) hbF _)⟩
    rw [←HMS.out]
    unfold mkLt
    rw [←HM.out]
    exact q
   case measure=>simp [intOf];omega
  ·have hkn:n=k:=by omega
   subst hkn
   go_wp2_with fail
   go_ret
   exact ⟨rfl,by rw [mkLts,HX.out];exact ho,HG.out⟩
set_option maxHeartbeats 1000000 in
theorem heldLutS_any (A:Option Addr) (n c:Nat) (xs:List Lt) (k0:Int) (w:World) (h:RdC w w.heap.size (celLt (mkLts k0 xs)) (.slice A n c)) (hk0:0≤k0) (hk1:k0≤2199023255552) (hz:lutSum xs n≤1099511627776) :
  Calls Try.prog 38 #[.slice A n c,.int .i64 k0] w fun e w'=>e = .returned (.int .i64 (k0+lutSum xs n))∧Below w.heap.size w w':=by
 have hx:xs.length=n:=by have:=h.lutN;rw [mkLts,mkLtsP_length] at this;exact this
 have hnb:n≤1099511627776:=Nat.le_trans (lutSum_ge xs n) hz
 have HX:=Lib.hid hx
 have HO:=Lib.hid h
 clear hx h
 go_enter Try.func38,Try.ntmps38
 go_wp2_with fail
 go_loopw [1,5] (fun v i wr=>∃k:Nat,k≤n∧i = .int .i64 k∧v = .int .i64 (k0+lutSum xs k)∧Below w.heap.size w wr) (fun _ i _=>n - (intOf i).toNat)
 case atStart=>exact ⟨0,Nat.zero_le _,rfl,by simp [lutSum],Below.refl _ _⟩
 case round =>
  obtain ⟨k,hk,rfl,rfl,hbe⟩:=hrel
  by_cases hlt:k<n
  ·obtain ⟨b,o,S,l,p,rfl,hb,c0,c1,r0⟩:=(HO.out.below hbe).lut (k:=k) (by rw [mkLts,mkLtsP_length,HX.out];exact hlt)
   rw [mkLts_get (by rw [HX.out];exact hlt)] at c1 r0
   have HN:=Lib.hid (lutSum.eq_2 xs k)
   have hle:=lutSum_le xs (j:=k+1) (k:=n) (by omega)
   rw [lutSum] at hle
   generalize xs[k]?.getD Lt.zero=e at *
   generalize lutSum xs k=s at *
   have HE:=Lib.hid hbe
   have hm:l=e.ins.length:=by have:=r0.ints.1;simp only [mkLt,iota_length] at this;exact this.symm
   have hcn:lutCnt e=l+1:=by rw [hm];rfl
   simp only [mkLt] at c1
   rw [←hm] at c1
   have HR0:Hid (Ints wr S l (iota (k0+s) l)):=by have:=r0.ints;simp only [mkLt] at this;rwa [←hm] at this
   have HCN:=Lib.hid hcn
   rw [hcn] at hle
   have hms:s+l+1≤1099511627776:=by omega
   have i0:(0:Int)≤(k:Int):=by omega
   have i1:(k:Int)<(n:Int):=by omega
   clear hm hcn hle r0 hbe
   go_wp2_with fail
   refine (heldIntS_any S l p (iota (k0+s) l) _ _ HR0.out rfl (by omega) (by omega) (by omega)).mono ?_
   rintro e' w2 ⟨rfl,b2⟩
   have d1:=(b2.cell (p:=⟨b,o+k * 2+1,none⟩) hb).trans c1
   have E2:=Lib.hid (below_tr HE.out b2)
   clear b2 c0 c1
   have g0:decide (k0+(s:Int)+l<0)=false:=by simp;omega
   go_wp2_with fail
   go_roundw
   case rel=>exact ⟨k+1,by omega,by go_num,by rw [HN.out,HCN.out];congr 1;omega,E2.out⟩
   case measure=>simp [intOf];omega
  ·have hkn:n=k:=by omega
   subst hkn
   go_wp2_with fail
   go_ret
   exact ⟨rfl,hbe⟩
theorem RdC.sq {w:World} {B n c k:Nat} {A:Option Addr} {xs:List Sq} (h:RdC w B (celSq xs) (.slice A n c)) (hk:k<xs.length) :
  ∃b o S m p,A=some ⟨b,o,none⟩∧b<B∧w.cell? ⟨b,o+k * 3,none⟩=some (.int .i64 (xs[k]?.getD Sq.zero).kind)∧w.cell? ⟨b,o+k * 3+1,none⟩=some (.int .i64 (xs[k]?.getD Sq.zero).init)∧w.cell? ⟨b,o+k * 3+2,none⟩=some (.slice S m p)∧RdC w B (celI (xs[k]?.getD Sq.zero).ins) (.slice S m p):=by
 have hl:=flatS_length Sq.cells_length xs
 obtain ⟨b,o,rfl,hb,hc⟩:=h.cell (by rw [hl];omega)
 have hx:=getD_some Sq.zero hk
 generalize xs[k]?.getD Sq.zero=t at *
 have g:=fun (j:Nat) (hj:j<3)=>hc (k * 3+j) (by rw [hl];omega)
 obtain ⟨c0,v0,e0,m0,r0⟩:=g 0 (by omega)
 obtain ⟨c1,v1,e1,m1,r1⟩:=g 1 (by omega)
 obtain ⟨c2,v2,e2,m2,r2⟩:=g 2 (by omega)
 rw [flatS_at Sq.cells_length hx (by omega)] at e0 e1 e2
 simp only [Sq.cells,List.getElem?_cons_zero,List.getElem?_cons_succ,Option.some.injEq] at e0 e1 e2
 subst e0 e1 e2
 rw [rdC_int] at r0 r1
 subst r0 r1
 obtain ⟨S,m,p,rfl⟩:=rdC_slice (e:=3) (s:=1) r2
 exact ⟨b,o,S,m,p,rfl,hb,m0,m1,m2,r2⟩
theorem RdC.sqN {w:World} {B n c:Nat} {A:Option Addr} {xs:List Sq} (h:RdC w B (celSq xs) (.slice A n c)):xs.length=n:=by
 have:=RdC.len h
 rw [flatS_length Sq.cells_length] at this
 omega
theorem OwnC.sqN {w:World} {n c:Nat} {A:Option Addr} {F:List Nat} {xs:List Sq} (h:OwnC w (celSq xs) (.slice A n c) F):xs.length=n:=RdC.sqN (OwnC.rd h)
theorem OwnC.sqIns {w:World} {n c i:Nat} {A:Option Addr} {F:List Nat} {xs:List Sq} {x:Sq} (h:OwnC w (celSq xs) (.slice A n c) F) (hF:F.Nodup) (hx:xs[i]?=some x) :
  ∃g S m p,A=some ⟨g,0,none⟩∧w.cell? ⟨g,i * 3+2,none⟩=some (.slice S m p)∧Own 0 w S m p x.ins∧(∀k∈blk S,k∈F) ∧
   ∀(w':World) (zs:List Int),Own 0 w' S m p zs→Only (blk S) w w'→OwnC w' (celSq (xs.set i { x with ins:=zs })) (.slice A n c) F:=by
 obtain ⟨g,v,Fj,rfl,hg,hc,ho,_,_,hsub,hup⟩:=h.child hF (j:=i * 3+2) (flatS_at Sq.cells_length hx (by omega))
 obtain ⟨S,m,p,rfl⟩:=ownC_slice (e:=3) (s:=1) ho
 obtain ⟨ho2,rfl⟩:=ownC_ints.1 ho
 refine ⟨g,S,m,p,rfl,hc,ho2,hsub,fun w' zs hz hon=>?_⟩
 have:=hup w' (celI zs) (ownC_ints.2 ⟨hz,rfl⟩) hon
 rw [flatS_set Sq.cells_length (y:={ x with ins:=zs }) hx (by omega) rfl] at this
 exact this
theorem OwnC.sqNums {w:World} {n c i:Nat} {A:Option Addr} {F:List Nat} {xs:List Sq} {x:Sq} (h:OwnC w (celSq xs) (.slice A n c) F) (hF:F.Nodup) (hx:xs[i]?=some x) :
  ∃g,A=some ⟨g,0,none⟩∧g∈F∧w.cell? ⟨g,i * 3,none⟩=some (.int .i64 x.kind)∧w.cell? ⟨g,i * 3+1,none⟩=some (.int .i64 x.init)∧w.frozen? ⟨g,i * 3,none⟩=false∧w.frozen? ⟨g,i * 3+1,none⟩=false ∧
   ∀a b:Int,OwnC ((w.setCell ⟨g,i * 3,none⟩ (.int .i64 a)).setCell ⟨g,i * 3+1,none⟩ (.int .i64 b)) (celSq (xs.set i { x with kind:=a,init:=b })) (.slice A n c) F:=by
 have hi:=(List.getElem?_eq_some_iff.1 hx).1
 obtain ⟨g,rfl,hg,c1,f1,u1⟩:=h.num hF (j:=i * 3+0) (flatS_at Sq.cells_length hx (by omega))
 obtain ⟨g2,hg2,_,c2,f2,_⟩:=h.num hF (j:=i * 3+1) (flatS_at Sq.cells_length hx (by omega))
 injection hg2 with hg2
 injection hg2 with hg2
 subst hg2
 refine ⟨g,rfl,hg,c1,c2,f1,f2,fun a b=>?_⟩
 have q1:=u1 a
 rw [flatS_set Sq.cells_length (y:={ x with kind:=a }) hx (by omega) rfl] at q1
 have hx1:(xs.set i { x with kind:=a })[i]?=some { x with kind:=a }:=List.getElem?_set_self hi
 obtain ⟨g2,hg2,_,_,_,u2⟩:=OwnC.num q1 hF (j:=i * 3+1) (flatS_at Sq.cells_length hx1 (by omega))
 injection hg2 with hg2
 injection hg2 with hg2
 subst hg2
 have q2:=u2 b
 rw [flatS_set Sq.cells_length (y:={ x with kind:=a,init:=b }) hx1 (by omega) rfl,List.set_set] at q2
 exact q2
def sqCnt (x:Sq):Nat:=x.ins.length+2
def sqSum (xs:List Sq):Nat→Nat
 | 0=>0
 | k+1=>sqSum xs k+sqCnt (xs[k]?.getD Sq.zero)
def mkSq (k:Int) (x:Sq):Sq:=⟨k,k+1,iota (k+2) x.ins.length⟩
def mkSqsP (k:Int) (xs:List Sq) (j:Nat):List Sq:=(List.range xs.length).map fun (i:Nat)=>if i<j then mkSq (k+sqSum xs i) (xs[i]?.getD Sq.zero) else xs[i]?.getD Sq.zero
def mkSqs (k:Int) (xs:List Sq):List Sq:=mkSqsP k xs xs.length
theorem mkSqsP_get {k:Int} {xs:List Sq} {j:Nat} (h:j<xs.length):(mkSqsP k xs j)[j]?=some (xs[j]?.getD Sq.zero):=by
 unfold mkSqsP
 rw [mapP_get h,if_neg (by omega)]
theorem mkSqsP_length (k:Int) (xs:List Sq) (j:Nat):(mkSqsP k xs j).length=xs.length:=by simp [mkSqsP]
theorem mkSqsP_set {k:Int} {xs:List Sq} {j:Nat} (h:j<xs.length):(mkSqsP k xs j).set j (mkSq (k+sqSum xs j) (xs[j]?.getD Sq.zero))=mkSqsP k xs (j+1):=mapP_set (g:=fun i=>mkSq (k+sqSum xs i) (xs[i]?.getD Sq.zero)) h
theorem mkSqs_get {k:Int} {xs:List Sq} {j:Nat} (h:j<xs.length):(mkSqs k xs)[j]?.getD Sq.zero=mkSq (k+sqSum xs j) (xs[j]?.getD Sq.zero):=by
 unfold mkSqs mkSqsP
 rw [mapP_get h,if_pos h]
 rfl
theorem sqSum_le (xs : List Sq) {j k : Nat} (h : j ≤ k) : sqSum xs j ≤ sqSum xs k := by
  induction k with
  | zero => obtain rfl : j = 0 := by omega
            exact Nat.le_refl _
  | succ k ih =>
    rcases Nat.lt_or_ge j (k + 1) with h1 | h1
    · have := ih (by omega)
      rw [sqSum]
      omega
    · obtain rfl : j = k + 1 := by omega
      exact Nat.le_refl _
theorem sqSum_ge (xs:List Sq) (k:Nat):k≤sqSum xs k:=by
 induction k with
 | zero=>exact Nat.le_refl _
 | succ k ih=>rw [sqSum,sqCnt];omega
def BdSqs (xs:List Sq):Prop:=xs.length≤1099511627776∧∀i:Nat,(xs[i]?.getD Sq.zero).ins.length≤1099511627776
set_option maxHeartbeats 1000000 in
theorem eqSeq_same (A B:Option Addr) (n m c d:Nat) (y0 y1:Int) (xs:List Int) (w:World) (hA:Ints w A n xs) (hB:Ints w B m xs) (hn:n≤1099511627776) :
  Calls Try.prog 57 #[.agg #[.int .i64 y0,.int .i64 y1,.slice A n c],.agg #[.int .i64 y0,.int .i64 y1,.slice B m d]] w fun e w'=>e = .returned (.bool true)∧Below w.heap.size w w':=by
 have HA:=Lib.hid hA
 have HB:=Lib.hid hB
 have hb0:Below w.heap.size w ((w.alloc (.cells #[.int .i64 y0,.int .i64 y1,.slice A n c] 51)).alloc (.cells #[.int .i64 y0,.int .i64 y1,.slice B m d] 51)):=below_new (below_new (Below.refl _ _) _) _
 clear hA hB
 go_enter Try.func57,Try.ntmps57
 go_wp2_with fail
 refine (eqIntS_same A B n m c d xs _ (HA.out.below hb0) (HB.out.below hb0) hn).mono ?_
 rintro e w1 ⟨rfl,b1⟩
 obtain ⟨hcc,hff⟩:=bcell b1
 have B1:=Lib.hid (below_tr hb0 b1)
 clear b1 hb0
 go_wp2_with fail
 go_ret
 exact ⟨rfl,B1.out⟩
set_option maxHeartbeats 1000000 in
theorem eqSeqS_same (A B:Option Addr) (n m c d:Nat) (xs:List Sq) (w:World) (hA:RdC w w.heap.size (celSq xs) (.slice A n c)) (hB:RdC w w.heap.size (celSq xs) (.slice B m d)) (hz:BdSqs xs) :
  Calls Try.prog 33 #[.slice A n c,.slice B m d] w fun e w'=>e = .returned (.bool true)∧Below w.heap.size w w':=by
 have hx:=hA.sqN
 have hy:=hB.sqN
 obtain ⟨hn,hrow⟩:=hz
 rw [hx] at hn
 obtain rfl:m=n:=by omega
 have HA:=Lib.hid hA
 have HB:=Lib.hid hB
 have HX:=Lib.hid hx
 have HR:=Lib.hid hrow
 clear hx hy hrow hA hB
 go_enter Try.func33,Try.ntmps33
 go_wp2_with fail
 go_loopw [5] (fun i wr=>∃k:Nat,k≤m∧i = .int .i64 k∧Below w.heap.size w wr) (fun i _=>m - (intOf i).toNat)
 case atStart=>exact ⟨0,Nat.zero_le _,rfl,Below.refl _ _⟩
 case round =>
  obtain ⟨k,hk,rfl,hbe⟩:=hrel
  by_cases hlt:k<m
  ·obtain ⟨b,o,S,l,p,rfl,hb,c0,c1,c2,r0⟩:=(HA.out.below hbe).sq (k:=k) (by rw [HX.out];exact hlt)
   obtain ⟨b',o',S',l',p',rfl,hb',d0,d1,d2,r0'⟩:=(HB.out.below hbe).sq (k:=k) (by rw [HX.out];exact hlt)
   have hrl:=HR.out k
   generalize xs[k]?.getD Sq.zero=e at *
   have J1:=Lib.hid r0.ints.drewd
   have J2:=Lib.hid r0'.ints.drewd
   have hl:l≤1099511627776:=by have:=r0.ints.1;omega
   have i0:(0:Int)≤(k:Int):=by omega
   have i1:(k:Int)<(m:Int):=by omega
   have HE:=Lib.hid hbe.drew
   clear r0 r0' hbe hrl
   go_wp2_with fail
   go_region_held3 (fun w'=>Below w.heap.size w w'∧w'.cell? ⟨b,o+k * 3,none⟩=some (.int .i64 e.kind)∧w'.cell? ⟨b,o+k * 3+1,none⟩=some (.int .i64 e.init)∧w'.cell? ⟨b,o+k * 3+2,none⟩=some (.slice S l p)∧w'.cell? ⟨b',o'+k * 3,none⟩=some (.int .i64 e.kind)∧w'.cell? ⟨b',o'+k * 3+1,none⟩=some (.int .i64 e.init)∧w'.cell? ⟨b',o'+k * 3+2,none⟩=some (.slice S' l' p'))
    (first
     | exact ⟨HE.out,c0,c1,c2,d0,d1,d2⟩
     | exact ⟨below_tr HE.out b3,(b3.cell (p:=⟨b,o+k * 3,none⟩) hb).trans c0,(b3.cell (p:=⟨b,o+k * 3+1,none⟩) hb).trans c1,(b3.cell (p:=⟨b,o+k * 3+2,none⟩) hb).trans c2,(b3.cell (p:=⟨b',o'+k * 3,none⟩) hb').trans d0,(b3.cell (p:=⟨b',o'+k * 3+1,none⟩) hb').trans d1,(b3.cell (p:=⟨b',o'+k * 3+2,none⟩) hb').trans d2⟩)
    (first|(go_at_call 57;(with_reducible refine (eqSeq_same S S' l l' p p' e.kind e.init e.ins _ J1.out J2.out hl).mono ?_);rintro e3 w3 ⟨rfl,b3⟩))
   rename_i hH
   have hE3:=hH.1
   clear hH
   go_wp2_with fail
   go_roundw
   case rel=>exact ⟨k+1,by omega,by go_num,hE3⟩
   case measure=>simp [intOf];omega
  ·have hkn:m=k:=by omega
   subst hkn
   go_wp2_with fail
   go_ret
   exact ⟨rfl,hbe⟩
set_option maxHeartbeats 2000000 in
theorem markSeqS_any (A:Option Addr) (n c:Nat) (xs:List Sq) (F:List Nat) (k0:Int) (w:World) (h:OwnC w (celSq xs) (.slice A n c) F) (hF:F.Nodup) (hk0:0≤k0) (hk1:k0≤2199023255552) (hz:sqSum xs n≤1099511627776) :
  Calls Try.prog 35 #[.slice A n c,.int .i64 k0] w fun e w'=>e = .returned (.int .i64 (k0+sqSum xs n))∧OwnC w' (celSq (mkSqs k0 xs)) (.slice A n c) F∧Only F w w':=by
 have hx:=h.sqN
 have hnb:n≤1099511627776:=Nat.le_trans (sqSum_ge xs n) hz
 have HX:=Lib.hid hx
 have HO:=Lib.hid h
 have HFN:=Lib.hid hF
 clear hx h hF
 go_enter Try.func35,Try.ntmps35
 go_wp2_with fail
 go_loopw [1,5] (fun v i wr=>∃k:Nat,k≤n∧i = .int .i64 k∧v = .int .i64 (k0+sqSum xs k)∧OwnC wr (celSq (mkSqsP k0 xs k)) (.slice A n c) F∧Only F w wr) (fun _ i _=>n - (intOf i).toNat)
 case atStart=>exact ⟨0,Nat.zero_le _,rfl,by simp [sqSum],by unfold mkSqsP;rw [mapP_zero];exact HO.out,Only.refl _ _⟩
 case round =>
  obtain ⟨k,hk,rfl,rfl,ho,hg⟩:=hrel
  have HG:=Lib.hid hg
  clear hg
  by_cases hlt:k<n
  ·have HMS:=Lib.hid (mkSqsP_set (k:=k0) (xs:=xs) (j:=k) (by rw [HX.out];exact hlt))
   have hg0:=mkSqsP_get (k:=k0) (xs:=xs) (j:=k) (by rw [HX.out];exact hlt)
   have HML:=Lib.hid (show k<(mkSqsP k0 xs k).length by rw [mkSqsP_length,HX.out];exact hlt)
   have HN:=Lib.hid (sqSum.eq_2 xs k)
   have hle:=sqSum_le xs (j:=k+1) (k:=n) (by omega)
   rw [sqSum] at hle
   generalize xs[k]?.getD Sq.zero=e at *
   generalize mkSqsP k0 xs k=ys at *
   generalize sqSum xs k=s at *
   have HG0:=Lib.hid hg0
   obtain ⟨b,rfl,hbF,d1,d2,f1,f2,hfin⟩:=ho.sqNums HFN.out hg0
   have q1:=hfin (k0+s) (k0+s+1)
   have hx2:(ys.set k { e with kind:=k0+s,init:=k0+s+1 })[k]?=some { e with kind:=k0+s,init:=k0+s+1 }:=List.getElem?_set_self HML.out
   obtain ⟨b',S,m,p,hb',c0,o1,hsub,hup⟩:=OwnC.sqIns q1 HFN.out hx2
   injection hb' with hb'
   injection hb' with hb'
   subst hb'
   simp only at o1
   have hm:m=e.ins.length:=o1.len.symm
   have hcn:sqCnt e=m+2:=by rw [hm];rfl
   have HM:=Lib.hid hm
   have HCN:=Lib.hid hcn
   have O1:=Lib.hid o1
   have HUP:=Lib.hid hup
   have HSUB:=Lib.hid hsub
   rw [hcn] at hle
   have hms:s+m+2≤1099511627776:=by omega
   have i0:(0:Int)≤(k:Int):=by omega
   have i1:(k:Int)<(n:Int):=by omega
   have HBF:=Lib.hid hbF
   clear ho o1 hup hsub hm hcn hg0 hle hfin q1 hx2 hbF
   go_wp2_with fail
   refine (markIntS_any 0 S m p _ _ _ O1.out (by omega) (by omega) (by omega)).mono ?_
   rintro e' w2 ⟨rfl,o2,g2⟩
   have on:=only_grown g2
   have U2:=Lib.hid (HUP.out w2 _ o2 on)
   have HG2:=Lib.hid ((((HG.out.trans (only_set (p:=⟨b,k * 3,none⟩) HBF.out _)).trans (only_set (p:=⟨b,k * 3+1,none⟩) HBF.out _))).trans (on.more HSUB.out))
   clear o2 g2 on c0 d1 d2 f1 f2
   go_wp2_with fail
   go_roundw
   case rel =>
    have q:=U2.out
    rw [List.set_set] at q
    refine ⟨k+1,by omega,by go_num,by rw [HN.out,HCN.out];congr 1;omega,?_,HG2.out⟩
    rw [←HMS.out]
    unfold mkSq
    rw [←HM.out,show k0+(s:Int)+2=k0+s+1+1 by omega]
    exact q
   case measure=>simp [intOf];omega
  ·have hkn:n=k:=by omega
   subst hkn
   go_wp2_with fail
   go_ret
   exact ⟨rfl,by rw [mkSqs,HX.out];exact ho,HG.out⟩
set_option maxHeartbeats 1000000 in
theorem heldSeqS_any (A:Option Addr) (n c:Nat) (xs:List Sq) (k0:Int) (w:World) (h:RdC w w.heap.size (celSq (mkSqs k0 xs)) (.slice A n c)) (hk0:0≤k0) (hk1:k0≤2199023255552) (hz:sqSum xs n≤1099511627776) :
  Calls Try.prog 37 #[.slice A n c,.int .i64 k0] w fun e w'=>e = .returned (.int .i64 (k0+sqSum xs n))∧Below w.heap.size w w':=by
 have hx:xs.length=n:=by have:=h.sqN;rw [mkSqs,mkSqsP_length] at this;exact this
 have hnb:n≤1099511627776:=Nat.le_trans (sqSum_ge xs n) hz
 have HX:=Lib.hid hx
 have HO:=Lib.hid h
 clear hx h
 go_enter Try.func37,Try.ntmps37
 go_wp2_with fail
 go_loopw [1,5] (fun v i wr=>∃k:Nat,k≤n∧i = .int .i64 k∧v = .int .i64 (k0+sqSum xs k)∧Below w.heap.size w wr) (fun _ i _=>n - (intOf i).toNat)
 case atStart=>exact ⟨0,Nat.zero_le _,rfl,by simp [sqSum],Below.refl _ _⟩
 case round =>
  obtain ⟨k,hk,rfl,rfl,hbe⟩:=hrel
  by_cases hlt:k<n
  ·obtain ⟨b,o,S,l,p,rfl,hb,c0,c1,c2,r0⟩:=(HO.out.below hbe).sq (k:=k) (by rw [mkSqs,mkSqsP_length,HX.out];exact hlt)
   rw [mkSqs_get (by rw [HX.out];exact hlt)] at c0 c1 r0
   have HN:=Lib.hid (sqSum.eq_2 xs k)
   have hle:=sqSum_le xs (j:=k+1) (k:=n) (by omega)
   rw [sqSum] at hle
   generalize xs[k]?.getD Sq.zero=e at *
   generalize sqSum xs k=s at *
   have HE:=Lib.hid hbe
   have hm:l=e.ins.length:=by have:=r0.ints.1;simp only [mkSq,iota_length] at this;exact this.symm
   have hcn:sqCnt e=l+2:=by rw [hm];rfl
   simp only [mkSq] at c0 c1
   have HR0:Hid (Ints wr S l (iota (k0+s+1+1) l)):=by have:=r0.ints;simp only [mkSq] at this;rw [show k0+(s:Int)+1+1=k0+s+2 by omega];rwa [←hm] at this
   have HCN:=Lib.hid hcn
   rw [hcn] at hle
   have hms:s+l+2≤1099511627776:=by omega
   have i0:(0:Int)≤(k:Int):=by omega
   have i1:(k:Int)<(n:Int):=by omega
   clear hm hcn hle r0 hbe
   go_wp2_with fail
   refine (heldIntS_any S l p (iota (k0+s+1+1) l) _ _ HR0.out rfl (by omega) (by omega) (by omega)).mono ?_
   rintro e' w2 ⟨rfl,b2⟩
   have E2:=Lib.hid (below_tr HE.out b2)
   clear b2 c0 c1 c2
   have g0:decide (k0+(s:Int)+1+1+l<0)=false:=by simp;omega
   go_wp2_with fail
   go_roundw
   case rel=>exact ⟨k+1,by omega,by go_num,by rw [HN.out,HCN.out];congr 1;omega,E2.out⟩
   case measure=>simp [intOf];omega
  ·have hkn:n=k:=by omega
   subst hkn
   go_wp2_with fail
   go_ret
   exact ⟨rfl,hbe⟩
end Go.Proofs.Ytignkfhdkcgkgaa

namespace Go.Proofs.Ytignkfhdkcgkgaa
set_option maxRecDepth 100000
open Go.RowKit

set_option maxHeartbeats 1000000 in
theorem eqLutNet_same (In:Int) (SA LA OA SB LB OB:Option Addr) (sn sc ln lc on oc sm sd lm ld om od:Nat) (lt:List Lt) (sq:List Sq) (outs:List Int) (w:World)
  (h1:RdC w w.heap.size (celSq sq) (.slice SA sn sc)) (h2:RdC w w.heap.size (celLt lt) (.slice LA ln lc)) (h3:RdC w w.heap.size (celI outs) (.slice OA on oc))
  (k1:RdC w w.heap.size (celSq sq) (.slice SB sm sd)) (k2:RdC w w.heap.size (celLt lt) (.slice LB lm ld)) (k3:RdC w w.heap.size (celI outs) (.slice OB om od)) (z1:BdSqs sq) (z2:BdLts lt) (z3:outs.length≤1099511627776) :
  Calls Try.prog 9 #[.agg #[.int .i64 In,.slice SA sn sc,.slice LA ln lc,.slice OA on oc],.agg #[.int .i64 In,.slice SB sm sd,.slice LB lm ld,.slice OB om od]] w fun e w'=>e = .returned (.bool true)∧Below w.heap.size w w':=by
 have HB0:Below w.heap.size w ((w.alloc (.cells #[.int .i64 In,.slice SA sn sc,.slice LA ln lc,.slice OA on oc] 30)).alloc (.cells #[.int .i64 In,.slice SB sm sd,.slice LB lm ld,.slice OB om od] 30)):=below_new (below_new (Below.refl _ _) _) _
 have H0:=Lib.hid HB0
 have hy:=heap_new (w.alloc (.cells #[.int .i64 In,.slice SA sn sc,.slice LA ln lc,.slice OA on oc] 30)) (.cells #[.int .i64 In,.slice SB sm sd,.slice LB lm ld,.slice OB om od] 30)
 have hx:=heap_al (.cells #[.int .i64 In,.slice SB sm sd,.slice LB lm ld,.slice OB om od] 30) (heap_new w (.cells #[.int .i64 In,.slice SA sn sc,.slice LA ln lc,.slice OA on oc] 30))
 simp only [World.size_alloc] at hy
 have HXB:=Lib.hid hx
 have HYB:=Lib.hid hy
 have HA1:=Lib.hid h1
 have HA2:=Lib.hid h2
 have HA3:=Lib.hid h3
 have HK1:=Lib.hid k1
 have HK2:=Lib.hid k2
 have HK3:=Lib.hid k3
 have hon:on≤1099511627776:=by have:=h3.ints.1;omega
 have hx0:(In != In)=false:=by simp
 clear h1 h2 h3 k1 k2 k3 HB0 hx hy
 go_enter Try.func9,Try.ntmps9
 go_wp2_with fail
 refine (eqSeqS_same SA SB sn sm sc sd sq _ (HA1.out.below H0.out) (HK1.out.below H0.out) z1).mono ?_
 rintro _ w1 ⟨rfl,b1⟩
 have B1:=Lib.hid (below_tr H0.out b1)
 have C1:=Lib.hid b1
 have hx:=heap_tr b1 HXB.out
 have x2:=cell_heap (k:=2) hx rfl
 have x3:=cell_heap (k:=3) hx rfl
 have lx:=heap_lt0 hx
 have hy:=heap_tr b1 HYB.out
 have y2:=cell_heap (k:=2) hy rfl
 have y3:=cell_heap (k:=3) hy rfl
 have ly:=heap_lt0 hy
 clear hx hy
 clear b1
 go_wp2_with fail
 refine (eqLutS_same LA LB ln lm lc ld lt _ (HA2.out.below B1.out) (HK2.out.below B1.out) z2).mono ?_
 rintro _ w2 ⟨rfl,b2⟩
 have B2:=Lib.hid (below_tr B1.out b2)
 have H12:=Lib.hid b2
 clear b2 x2 x3 lx y2 y3 ly
 have hx:=heap_tr (below_tr C1.out H12.out) HXB.out
 have x2:=cell_heap (k:=2) hx rfl
 have x3:=cell_heap (k:=3) hx rfl
 have lx:=heap_lt0 hx
 have hy:=heap_tr (below_tr C1.out H12.out) HYB.out
 have y2:=cell_heap (k:=2) hy rfl
 have y3:=cell_heap (k:=3) hy rfl
 have ly:=heap_lt0 hy
 clear hx hy
 go_wp2_with fail
 refine (eqIntS_same OA OB on om oc od outs _ (HA3.out.below B2.out).ints (HK3.out.below B2.out).ints hon).mono ?_
 rintro _ w3 ⟨rfl,b3⟩
 have B3:=Lib.hid (below_tr B2.out b3)
 clear b3 x2 x3 lx y2 y3 ly
 go_wp2_with fail
 go_ret
 exact ⟨rfl,B3.out⟩
/-- What is marked becomes a numbering, all else stays. -/
theorem Sepa.markI {W w:World} {ps:List Pc} (S:Sepa W w ps) (j:Nat) {A:Option Addr} {n c:Nat} {xs:List Int} (hj:ps[j]?=some (.cel (celI xs) (.slice A n c))):Own 0 w A n c xs∧∀(w':World) (ys:List Int),Own 0 w' A n c ys→w.grownBy w' (A.map (·.block))→Sepa W w' (ps.set j (.cel (celI ys) (.slice A n c))):=by
 obtain ⟨F,k1,k2,k3,k4⟩:=S.part j hj
 obtain ⟨ho,rfl⟩:=ownC_ints.1 k1
 exact ⟨ho,fun w' ys ho' hg=>k4 w' _ (_root_.Go.Proofs.Ytignkfhdkcgkgaa.blk A) (ownC_ints.2 ⟨ho',rfl⟩) k2 (fun k hk => .inl hk) (only_grown hg)⟩
theorem markIntS_sep {V:World} {ps:List Pc} (j:Nat) (A:Option Addr) (n c:Nat) (xs:List Int) (k0:Int) (w:World) (S:Sepa V w ps) (hj:ps[j]?=some (.cel (celI xs) (.slice A n c))) (hk0:0≤k0) (hk1:k0≤1152921504606846976) (hn:n≤1099511627776) :
  Calls Try.prog 14 #[.slice A n c,.int .i64 k0] w fun e w'=>e = .returned (.int .i64 (k0+(n:Int)))∧Sepa V w' (ps.set j (.cel (celI (iota k0 n)) (.slice A n c)))∧w.heap.size≤w'.heap.size:=by
 obtain ⟨ho,hu⟩:=S.markI j hj
 refine (markIntS_any 0 A n c xs k0 w ho hk0 hk1 hn).mono ?_
 rintro e w' ⟨he,h1,h2⟩
 exact ⟨he,hu w' _ h1 h2,h2.size⟩
theorem markSeqS_sep {V:World} {ps:List Pc} (j:Nat) (A:Option Addr) (n c:Nat) (xs:List Sq) (k0:Int) (w:World) (S:Sepa V w ps) (hj:ps[j]?=some (.cel (celSq xs) (.slice A n c))) (hk0:0≤k0) (hk1:k0≤2199023255552) (hz:sqSum xs n≤1099511627776) :
  Calls Try.prog 35 #[.slice A n c,.int .i64 k0] w fun e w'=>e = .returned (.int .i64 (k0+(sqSum xs n:Int)))∧Sepa V w' (ps.set j (.cel (celSq (mkSqs k0 xs)) (.slice A n c)))∧w.heap.size≤w'.heap.size:=by
 obtain ⟨F,k1,k2,k3,k4⟩:=S.part j hj
 refine (markSeqS_any A n c xs F k0 w k1 k2 hk0 hk1 hz).mono ?_
 rintro e w' ⟨he,h1,h2⟩
 exact ⟨he,k4 w' _ F h1 k2 (fun k hk => .inl hk) h2,h2.size⟩
theorem markLutS_sep {V:World} {ps:List Pc} (j:Nat) (A:Option Addr) (n c:Nat) (xs:List Lt) (k0:Int) (w:World) (S:Sepa V w ps) (hj:ps[j]?=some (.cel (celLt xs) (.slice A n c))) (hk0:0≤k0) (hk1:k0≤2199023255552) (hz:lutSum xs n≤1099511627776) :
  Calls Try.prog 36 #[.slice A n c,.int .i64 k0] w fun e w'=>e = .returned (.int .i64 (k0+(lutSum xs n:Int)))∧Sepa V w' (ps.set j (.cel (celLt (mkLts k0 xs)) (.slice A n c)))∧w.heap.size≤w'.heap.size:=by
 obtain ⟨F,k1,k2,k3,k4⟩:=S.part j hj
 refine (markLutS_any A n c xs F k0 w k1 k2 hk0 hk1 hz).mono ?_
 rintro e w' ⟨he,h1,h2⟩
 exact ⟨he,k4 w' _ F h1 k2 (fun k hk => .inl hk) h2,h2.size⟩
set_option maxHeartbeats 2000000 in
theorem markLutNet_sep {V:World} (In:Int) (SA LA OA:Option Addr) (sn sc ln lc on oc:Nat) (lt:List Lt) (sq:List Sq) (outs:List Int) (rs:List Pc) (k0:Int) (w:World)
  (S:Sepa V w (.cel (celLt lt) (.slice LA ln lc) :: .cel (celSq sq) (.slice SA sn sc) :: .cel (celI outs) (.slice OA on oc) :: rs)) (hk0:0≤k0) (hk1:k0≤1099511627) (z1:sqSum sq sn≤1099511627) (z2:lutSum lt ln≤1099511627) (z3:on≤1099511627) :
  Calls Try.prog 13 #[.agg #[.int .i64 In,.slice SA sn sc,.slice LA ln lc,.slice OA on oc],.int .i64 k0] w fun e w'=>e = .returned (.int .i64 (k0+(sqSum sq sn:Int)+(lutSum lt ln:Int)+(on:Int))) ∧
   Sepa V w' (.cel (celLt (mkLts (k0+(sqSum sq sn:Int)) lt)) (.slice LA ln lc) :: .cel (celSq (mkSqs k0 sq)) (.slice SA sn sc) :: .cel (celI (iota (k0+(sqSum sq sn:Int)+(lutSum lt ln:Int)) on)) (.slice OA on oc) :: rs)∧w.heap.size≤w'.heap.size:=by
 have HS:=Lib.hid (S.consBlk #[.int .i64 In,.slice SA sn sc,.slice LA ln lc,.slice OA on oc] 30)
 clear S
 generalize hsq:sqSum sq sn=q at *
 generalize hlt:lutSum lt ln=l at *
 have HSQ:=Lib.hid hsq
 have HLT:=Lib.hid hlt
 clear hsq hlt
 go_enter Try.func13,Try.ntmps13
 go_wp2_with fail
 refine (markSeqS_sep 2 SA sn sc sq k0 _ HS.out rfl hk0 (by omega) (by rw [HSQ.out];omega)).mono ?_
 rw [HSQ.out]
 rintro _ w1 ⟨rfl,s1,b1⟩
 have HS1:=Lib.hid s1
 have x2:=cell_heap (k:=2) (s1.blk 0 rfl).1 rfl
 have x3:=cell_heap (k:=3) (s1.blk 0 rfl).1 rfl
 have lx:=heap_lt0 (s1.blk 0 rfl).1
 clear s1
 go_wp2_with fail
 refine (markLutS_sep 1 LA ln lc lt _ _ HS1.out rfl (by omega) (by omega) (by rw [HLT.out];omega)).mono ?_
 rw [HLT.out]
 rintro _ w2 ⟨rfl,s2,b2⟩
 have HS2:=Lib.hid s2
 clear x2 x3 lx
 have x3:=cell_heap (k:=3) (s2.blk 0 rfl).1 rfl
 have lx:=heap_lt0 (s2.blk 0 rfl).1
 clear s2
 go_wp2_with fail
 refine (markIntS_sep 3 OA on oc outs _ _ HS2.out rfl (by omega) (by omega) (by omega)).mono ?_
 rintro _ w3 ⟨rfl,s3,b3⟩
 have HS3:=Lib.hid s3
 clear s3 x3 lx
 go_wp2_with fail
 go_ret
 simp only [World.size_alloc] at b1
 exact ⟨rfl,HS3.out.tail,by omega⟩
set_option maxHeartbeats 1000000 in
theorem heldLutNet_any (In:Int) (SA LA OA:Option Addr) (sn sc ln lc on oc:Nat) (lt:List Lt) (sq:List Sq) (k0:Int) (w:World)
  (h1:RdC w w.heap.size (celSq (mkSqs k0 sq)) (.slice SA sn sc)) (h2:RdC w w.heap.size (celLt (mkLts (k0+(sqSum sq sn:Int)) lt)) (.slice LA ln lc)) (h3:RdC w w.heap.size (celI (iota (k0+(sqSum sq sn:Int)+(lutSum lt ln:Int)) on)) (.slice OA on oc)) (hk0:0≤k0) (hk1:k0≤1099511627) (z1:sqSum sq sn≤1099511627) (z2:lutSum lt ln≤1099511627) (z3:on≤1099511627) :
  Calls Try.prog 15 #[.agg #[.int .i64 In,.slice SA sn sc,.slice LA ln lc,.slice OA on oc],.int .i64 k0] w fun e w'=>e = .returned (.int .i64 (k0+(sqSum sq sn:Int)+(lutSum lt ln:Int)+(on:Int)))∧Below w.heap.size w w':=by
 have H0:=Lib.hid (below_new (Below.refl w.heap.size w) (.cells #[.int .i64 In,.slice SA sn sc,.slice LA ln lc,.slice OA on oc] 30))
 have HXB:=Lib.hid (heap_new w (.cells #[.int .i64 In,.slice SA sn sc,.slice LA ln lc,.slice OA on oc] 30))
 have HA1:=Lib.hid h1
 have HA2:=Lib.hid h2
 have HA3:=Lib.hid h3
 clear h1 h2 h3
 generalize hsq:sqSum sq sn=q at *
 generalize hlt:lutSum lt ln=l at *
 have HSQ:=Lib.hid hsq
 have HLT:=Lib.hid hlt
 clear hsq hlt
 go_enter Try.func15,Try.ntmps15
 go_wp2_with fail
 refine (heldSeqS_any SA sn sc sq k0 _ (HA1.out.below H0.out) hk0 (by omega) (by rw [HSQ.out];omega)).mono ?_
 rw [HSQ.out]
 rintro _ w1 ⟨rfl,b1⟩
 have B1:=Lib.hid (below_tr H0.out b1)
 have C1:=Lib.hid b1
 have hx:=heap_tr b1 HXB.out
 have x2:=cell_heap (k:=2) hx rfl
 have x3:=cell_heap (k:=3) hx rfl
 have lx:=heap_lt0 hx
 clear hx
 clear b1
 go_wp2_with fail
 refine (heldLutS_any LA ln lc lt _ _ (HA2.out.below B1.out) (by omega) (by omega) (by rw [HLT.out];omega)).mono ?_
 rw [HLT.out]
 rintro _ w2 ⟨rfl,b2⟩
 have B2:=Lib.hid (below_tr B1.out b2)
 have H12:=Lib.hid b2
 clear b2 x2 x3 lx
 have hx:=heap_tr (below_tr C1.out H12.out) HXB.out
 have x2:=cell_heap (k:=2) hx rfl
 have x3:=cell_heap (k:=3) hx rfl
 have lx:=heap_lt0 hx
 clear hx
 go_wp2_with fail
 refine (heldIntS_any OA on oc _ _ _ (HA3.out.below B2.out).ints rfl (by omega) (by omega) (by omega)).mono ?_
 rintro _ w3 ⟨rfl,b3⟩
 have B3:=Lib.hid (below_tr B2.out b3)
 clear b3 x2 x3 lx
 go_wp2_with fail
 go_ret
 exact ⟨rfl,B3.out⟩
end Go.Proofs.Ytignkfhdkcgkgaa

namespace Go.Proofs.Ytignkfhdkcgkgaa
set_option maxRecDepth 100000
open Go.RowKit

theorem lutSum_bd {xs:List Lt} {b:Nat} (h:∀i:Nat,(xs[i]?.getD Lt.zero).ins.length≤b) (k:Nat):lutSum xs k≤k * (b+1):=by
 induction k with
 | zero=>exact Nat.zero_le _
 | succ k ih =>
  rw [lutSum,Nat.succ_mul]
  have:=h k
  unfold lutCnt
  omega
theorem sqSum_bd {xs:List Sq} {b:Nat} (h:∀i:Nat,(xs[i]?.getD Sq.zero).ins.length≤b) (k:Nat):sqSum xs k≤k * (b+2):=by
 induction k with
 | zero=>exact Nat.zero_le _
 | succ k ih =>
  rw [sqSum,Nat.succ_mul]
  have:=h k
  unfold sqCnt
  omega
theorem ordF_lts {d:Dev} {ts:List Tile}:∀(k:Nat) (pl:List Int) (lt:List Lt) {pl':List Int} {lt':List Lt},ordF d ts k pl lt=some (pl',lt')→(∀x∈lt,x.ins.length=4)→(∀x∈lt',x.ins.length=4)∧lt'.length=lt.length+k
 | 0,pl,lt,pl',lt',h,h4=>by
  rw [ordF] at h
  injection h with h
  injection h with _ h
  subst h
  exact ⟨h4,rfl⟩
 | k+1,pl,lt,pl',lt',h,h4=>by
  rw [ordF] at h
  split at h
  ·cases h
  ·have:=ordF_lts k _ _ h (fun x hx=>by
    rcases List.mem_append.1 hx with hx|hx
    ·exact h4 x hx
    ·rw [List.mem_singleton] at hx
     subst hx
     exact selTo_length _ _ _ _ _)
   rw [List.length_append] at this
   exact ⟨this.1,by have:=this.2;simp at this;omega⟩
/-- A network of at most 72 look-up tables and sequential elements with at most four inputs each, and at most 36 inputs and outputs. -/
structure NetBd (l:LNet):Prop where
 luts:l.luts.length≤72
 lutI:∀i:Nat,(l.luts[i]?.getD Lt.zero).ins.length≤4
 seqs:l.seqs.length≤72
 seqI:∀i:Nat,(l.seqs[i]?.getD Sq.zero).ins.length≤4
 outs:l.outs.length≤36
theorem NetBd.none:NetBd LNet.zero:=⟨by simp [LNet.zero],fun i=>by simp [LNet.zero,Lt.zero],by simp [LNet.zero],fun i=>by simp [LNet.zero,Sq.zero],by simp [LNet.zero]⟩
theorem NetBd.z1 {l:LNet} (h:NetBd l):sqSum l.seqs l.seqs.length≤432:=by
 have h1:=sqSum_bd h.seqI l.seqs.length
 have h2:l.seqs.length * (4+2)≤72 * (4+2):=Nat.mul_le_mul_right _ h.seqs
 omega
theorem NetBd.z2 {l:LNet} (h:NetBd l):lutSum l.luts l.luts.length≤360:=by
 have h1:=lutSum_bd h.lutI l.luts.length
 have h2:l.luts.length * (4+1)≤72 * (4+1):=Nat.mul_le_mul_right _ h.luts
 omega
theorem NetBd.b1 {l:LNet} (h:NetBd l):BdSqs l.seqs:=⟨by have:=h.seqs;omega,fun i=>by have:=h.seqI i;omega⟩
theorem NetBd.b2 {l:LNet} (h:NetBd l):BdLts l.luts:=⟨by have:=h.luts;omega,fun i=>by have:=h.lutI i;omega⟩
theorem sqI_len (d:Dev) (ts:List Tile) (pl:List Int) (x:Int):(sqI d ts pl x).length≤4:=by
 unfold sqI ramIn
 split <;> simp
theorem disF_bd (d:Dev) (fs:List (List Int)):NetBd (disF d fs).1∧(disF d fs).2.1.length≤36∧(disF d fs).2.2.1.length≤36:=by
 by_cases hf:framesOk d fs=true
 ·unfold disF
  rw [if_pos hf]
  have hc:=cfg_of_frames hf
  have htq:=tiles_eq hc.dev
  have hcl:=hc.len
  generalize tilesOf d fs=ts at *
  have h1:=padTo_length d ts 1 ts.length
  have h2:=padTo_length d ts 2 ts.length
  have h3:=owTo_length d ts ts.length
  have h4:=lgTo_length d ts.length
  cases ht:disT d ts with
  | none=>exact ⟨NetBd.none,by simp,by simp⟩
  | some l =>
   refine ⟨?_,by unfold insL;simp only [];omega,by unfold outL;simp only [];omega⟩
   unfold disT at ht
   split at ht
   ·cases ht
   ·split at ht
    ·cases ht
    ·rename_i pl lt ho
     unfold ordA at ho
     have h5:=ordF_lts _ _ _ ho (by simp)
     unfold disP at ht
     split at ht
     ·injection ht with ht
      subst ht
      refine ⟨?_,fun i=>?_,?_,fun i=>?_,?_⟩
      ·have:=h5.2;unfold lgL at this;simp only [List.length_nil] at this;simp only [];omega
      ·rcases Nat.lt_or_ge i lt.length with hi|hi
       ·simp only [List.getElem?_eq_getElem hi,Option.getD_some]
        exact Nat.le_of_eq (h5.1 _ (List.getElem_mem hi))
       ·simp only [List.getElem?_eq_none hi,Option.getD_none];exact Nat.zero_le _
      ·simp only [List.length_map];unfold owL;omega
      ·simp only [List.getElem?_map]
       cases (owL d ts)[i]? with
       | none=>exact Nat.zero_le _
       | some x=>exact sqI_len d ts pl x
      ·simp only [List.length_map];unfold outL;omega
     ·cases ht
 ·unfold disF
  rw [if_neg hf]
  exact ⟨NetBd.none,by simp,by simp⟩
/-- The pieces seen from an elder world, behind a change of elder blocks. -/
theorem Sepa.lowerChg {V W w w':World} {ps:List Pc} {lo hi:Nat} (h:Sepa W w ps) (hb:Below V.heap.size V W) (h1:V.heap.size≤lo) (h2:hi≤W.heap.size) (ho:Chg lo hi w w'):Sepa V w' ps:=by
 obtain ⟨hB,F,k2,k3,k4⟩:=h
 exact ⟨below_chg (below_tr hb hB) ho h1,F,k2.keep ho.size fun k hk=>ho.block k (k2.lt k hk) (.inr (Nat.le_trans h2 (k4 k hk))),k3,fun k hk=>Nat.le_trans hb.size (k4 k hk)⟩
end Go.Proofs.Ytignkfhdkcgkgaa
