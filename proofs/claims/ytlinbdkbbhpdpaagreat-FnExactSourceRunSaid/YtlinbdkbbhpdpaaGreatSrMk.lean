/- Marking nested data, cell by cell. Plain lemmas. Marking the parts of a design that the call owns (printed by mkmk.py). -/
import Derived.Test.YtlinbdkbbhpdpaaGreatHar
import Derived.Test.YtlinbdkbbhpdpaaGreatOwn
import Derived.Test.YtlinbdkbbhpdpaaGreatSrArg
namespace Go.Proofs.YtlinbdkbbhpdpaaGreat
set_option maxRecDepth 100000
open Go.RowKit

theorem ownC_len {w:World} {e s n c:Nat} {A:Option Addr} {cs:List Cel} {F:List Nat} (h:OwnC w (.row e s cs) (.slice A n c) F):cs.length=n * s:=by
 rw [ownC_row] at h
 obtain ⟨A',n',c',vs,F',hv,ho,_,hl⟩:=h
 injection hv with _ hn _
 subst hn
 rw [←hl.len]
 exact ho.1
theorem flat_getR {α:Type} {cells:α→List Cel} {s:Nat} (hf:∀x,(cells x).length=s) {z:α}:∀{xs:List α} {i r:Nat},i<xs.length→r<s→(xs.flatMap cells)[i * s+r]?=(cells (xs[i]?.getD z))[r]?
 | [],i,r,hi,_=>by simp at hi
 | x :: xs,0,r,_,hr=>by rw [List.flatMap_cons,Nat.zero_mul,Nat.zero_add,List.getElem?_append_left (by rw [hf];exact hr)];rfl
 | x :: xs,i+1,r,hi,hr=>by
  rw [List.flatMap_cons,List.getElem?_append_right (by rw [hf,Nat.succ_mul];omega),hf,show (i+1) * s+r - s=i * s+r by rw [Nat.succ_mul];omega,flat_getR hf (by simpa using hi) hr]
  rfl
theorem cell_setN {w:World} {g p q:Nat} {v:Value} (h:p≠q):(w.setCell ⟨g,p,none⟩ v).cell? ⟨g,q,none⟩=w.cell? ⟨g,q,none⟩:=World.cell?_setCell_other _ _ _ _ (fun e=>h (by injection e))
/-- Of a row that the call owns the first j cells are marked. -/
structure Mkd (F:List Nat) (e s n c g:Nat) (k0:Int) (cs:List Cel) (w0 w:World) (j:Nat):Prop where
 own:OwnC w (.row e s (mkP k0 cs j)) (.slice (some ⟨g,0,none⟩) n c) F
 only:Only F w0 w
section
variable {F:List Nat} {e s n c g j:Nat} {k0:Int} {cs:List Cel} {w0 w:World}
theorem mkP_past {q:Nat} (hq:j≤q) (hl:j≤cs.length):(mkP k0 cs j)[q]?=cs[q]?:=by
 have h1:(mkL k0 (cs.take j)).length=j:=by rw [mkL_length];simp;omega
 unfold mkP
 rw [List.getElem?_append_right (by omega),h1,List.getElem?_drop]
 congr 1
 omega
theorem Mkd.get (h:Mkd F e s n c g k0 cs w0 w j) (hF:F.Nodup) {q:Nat} (hq:j≤q) {x:Int} (hc:cs[q]?=some (.int x)):w.cell? ⟨g,q,none⟩=some (.int .i64 x)∧w.frozen? ⟨g,q,none⟩=false∧g<w.heap.size:=by
 have hl:=(List.getElem?_eq_some_iff.1 hc).1
 obtain ⟨g',hA,hgF,h1,h2,-⟩:=h.own.num hF ((mkP_past hq (by omega)).trans hc)
 injection hA with hA
 injection hA with hA
 subst hA
 exact ⟨h1,h2,h.own.lt _ hgF⟩
theorem Mkd.put (h:Mkd F e s n c g k0 cs w0 w j) (hF:F.Nodup) {x:Int} (hc:cs[j]?=some (.int x)) {y:Int} (hy:y=k0+(cntL (cs.take j):Int)):Mkd F e s n c g k0 cs w0 (w.setCell ⟨g,j,none⟩ (.int .i64 y)) (j+1):=by
 obtain ⟨g',hA,hgF,-,-,h3⟩:=h.own.num hF (mkP_get hc)
 injection hA with hA
 injection hA with hA
 subst hA
 refine ⟨?_,h.only.trans (only_set hgF _)⟩
 rw [←mkP_set hc,hy]
 exact h3 _
theorem Mkd.row (h:Mkd F e s n c g k0 cs w0 w j) (hF:F.Nodup) {e' s':Nat} {ds:List Cel} (hc:cs[j]?=some (.row e' s' ds)):∃S m p G,w.cell? ⟨g,j,none⟩=some (.slice S m p)∧g<w.heap.size∧OwnC w (.row e' s' ds) (.slice S m p) G∧G.Nodup ∧
  ∀(k:Int) (w':World),k=k0+(cntL (cs.take j):Int)→OwnC w' (mkC k (.row e' s' ds)) (.slice S m p) G→Only G w w'→Mkd F e s n c g k0 cs w0 w' (j+1):=by
 obtain ⟨g',v,G,hA,hgF,h1,h2,h3,-,h5,h6⟩:=h.own.child hF (mkP_get hc)
 injection hA with hA
 injection hA with hA
 subst hA
 obtain ⟨S,m,p,vs,F',rfl,-⟩:=ownC_row.1 h2
 refine ⟨S,m,p,G,h1,h.own.lt _ hgF,h2,h3,fun k w' hk ho hg=>⟨?_,h.only.trans (hg.more h5)⟩⟩
 rw [←mkP_set hc,←hk]
 exact h6 w' _ ho hg
theorem mkd_start {A:Option Addr} (h:OwnC w (.row e s cs) (.slice A n c) F) (hj:0<cs.length):∃g,A=some ⟨g,0,none⟩∧Mkd F e s n c g k0 cs w w 0:=by
 obtain ⟨g,c0,v,F1,Fj,F2,rfl,-⟩:=h.cell hj
 exact ⟨g,rfl,by rw [mkP_zero];exact h,Only.refl _ _⟩
theorem Mkd.done (h:Mkd F e s n c g k0 cs w0 w j) (hj:cs.length≤j):OwnC w (mkC k0 (.row e s cs)) (.slice (some ⟨g,0,none⟩) n c) F∧Only F w0 w:=by
 refine ⟨?_,h.only⟩
 rw [mkC,←mkP_full k0 cs hj]
 exact h.own
end
end Go.Proofs.YtlinbdkbbhpdpaaGreat

namespace Go.Proofs.YtlinbdkbbhpdpaaGreat
set_option maxRecDepth 100000
open Go.RowKit

theorem ownC_le {w:World} {e s n c:Nat} {A:Option Addr} {cs:List Cel} {F:List Nat} (h:OwnC w (.row e s cs) (.slice A n c) F):n≤9223372036854775807:=by
 rw [ownC_row] at h
 obtain ⟨A',n',c',vs,F',hv,ho,_,_⟩:=h
 injection hv with _ hn _
 subst hn
 rcases ho.2 with ⟨h1,h2⟩|⟨g,cap,cur,h1,_,_,h3,h4,_⟩
 ·injection h1 with _ h1 _;omega
 ·injection h1 with _ h1 _;unfold maxLen at h4;omega
theorem markIntS_c (A:Option Addr) (n c:Nat) (xs:List Int) (F:List Nat) (k0:Int) (w:World) (h:OwnC w (celI xs) (.slice A n c) F) (hF:F.Nodup) (hk0:0≤k0) (hk1:k0+(cntC (celI xs):Int)≤1099511627776) :
  Calls Tryz.prog 22 #[.slice A n c,.int .i64 k0] w fun e w'=>e = .returned (.int .i64 (k0+(cntC (celI xs):Int)))∧OwnC w' (mkC k0 (celI xs)) (.slice A n c) F∧Only F w w':=by
 obtain ⟨ho,rfl⟩:=ownC_ints.1 h
 have hl:xs.length=n:=ho.len
 have hc:cntC (celI xs)=n:=by rw [celI,cntC,cnt_ints,hl]
 rw [hc] at hk1 ⊢
 refine (markIntS_any 0 A n c xs k0 w ho hk0 (by omega) (by omega)).mono ?_
 rintro e w' ⟨rfl,h1,h2⟩
 refine ⟨rfl,?_,only_grown h2⟩
 rw [celI,mkC,mk_ints,hl]
 exact ownC_ints.2 ⟨h1,rfl⟩
set_option maxHeartbeats 2000000 in
theorem markSignalS_any (A:Option Addr) (n c:Nat) (xs:List SgT) (F:List Nat) (k0:Int) (w:World) (h:OwnC w (celSg xs) (.slice A n c) F) (hF:F.Nodup) (hk0:0≤k0) (hk1:k0+(cntC (celSg xs):Int)≤1099511627776) :
  Calls Tryz.prog 114 #[.slice A n c,.int .i64 k0] w fun e w'=>e = .returned (.int .i64 (k0+(cntC (celSg xs):Int)))∧OwnC w' (mkC k0 (celSg xs)) (.slice A n c) F∧Only F w w':=by
 have hl:xs.length=n:=by have h1:=ownC_len h;unfold celSg at h1;rw [flatLen (s:=3) (fun _=>rfl)] at h1;omega
 have hn:=ownC_le h
 have HL:=Lib.hid hl
 have HO:=Lib.hid h
 have HFN:=Lib.hid hF
 have HCN:Hid (cntC (celSg xs)=cntL (xs.flatMap SgT.cells)):=by show _=_;rw [celSg,cntC]
 rw [HCN.out] at hk1
 have HK1:=Lib.hid hk1
 clear h hF hl
 by_cases hn0:n=0
 ·subst hn0
  have hx:xs=[]:=List.eq_nil_of_length_eq_zero HL.out
  subst hx
  go_enter Tryz.func114,Tryz.ntmps114
  go_wp2_with fail
  go_loopw [1,5] (fun v i wr=>v = .int .i64 k0∧i = .int .i64 0∧w=wr) (fun _ _ _=>0)
  case atStart=>exact ⟨rfl,rfl,rfl⟩
  case round =>
   obtain ⟨rfl,rfl,rfl⟩:=hrel
   go_wp2_with fail
   go_ret
   exact ⟨ret_int (by rw [HCN.out];simp [cntL]),HO.out,Only.refl _ _⟩
 obtain ⟨g,rfl,hm0⟩:=mkd_start (k0:=k0) HO.out (by rw [ownC_len HO.out];omega)
 have HM0:=Lib.hid hm0
 clear hm0 HO
 go_enter Tryz.func114,Tryz.ntmps114
 go_wp2_with fail
 go_loopw [1,5] (fun v i wr=>∃k:Nat,k≤n∧i = .int .i64 (k:Int)∧v = .int .i64 (k0+(cntL ((xs.flatMap SgT.cells).take (k * 3)):Int))∧Mkd F 155 3 n c g k0 (xs.flatMap SgT.cells) w wr (k * 3)) (fun _ i _=>n - (intOf i).toNat)
 case atStart=>exact ⟨0,by omega,rfl,by simp [cntL],by rw [Nat.zero_mul];exact HM0.out⟩
 case round =>
  obtain ⟨k,hk,rfl,rfl,hm⟩:=hrel
  have HM:=Lib.hid hm
  clear hm
  by_cases hlt:k<n
  ·have hkl:k<xs.length:=by rw [HL.out];exact hlt
   have HE0:Hid ((xs.flatMap SgT.cells)[k * 3]?=some (.int ((xs[k]?.getD SgT.zero).kind))):=flat_getR (cells:=SgT.cells) (s:=3) (z:=SgT.zero) (r:=0) (fun _=>rfl) hkl (by omega)
   have hs0:=cntL_succ HE0.out
   have HE1:Hid ((xs.flatMap SgT.cells)[k * 3+1]?=some (.int ((xs[k]?.getD SgT.zero).width))):=flat_getR (cells:=SgT.cells) (s:=3) (z:=SgT.zero) (r:=1) (fun _=>rfl) hkl (by omega)
   have hs1:=cntL_succ HE1.out
   have HE2:Hid ((xs.flatMap SgT.cells)[k * 3+2]?=some (.int ((xs[k]?.getD SgT.zero).init))):=flat_getR (cells:=SgT.cells) (s:=3) (z:=SgT.zero) (r:=2) (fun _=>rfl) hkl (by omega)
   have hs2:=cntL_succ HE2.out
   have hle:=cntL_take_le (xs.flatMap SgT.cells) (k * 3+3)
   try simp only [cntC] at hs0
   try simp only [cntC] at hs1
   try simp only [cntC] at hs2
   have hke:(k+1) * 3=k * 3+3:=by omega
   generalize hK0:cntL ((xs.flatMap SgT.cells).take (k * 3))=K0 at *
   generalize hK1:cntL ((xs.flatMap SgT.cells).take (k * 3+1))=K1 at *
   generalize hK2:cntL ((xs.flatMap SgT.cells).take (k * 3+2))=K2 at *
   generalize hK3:cntL ((xs.flatMap SgT.cells).take (k * 3+3))=K3 at *
   have hk1:=HK1.out
   have HK0:=Lib.hid hK0
   have HK1:=Lib.hid hK1
   have HK2:=Lib.hid hK2
   have HK3:=Lib.hid hK3
   have i0:(0:Int)≤(k:Int):=by omega
   have i1:(k:Int)<(n:Int):=by omega
   have HKE:=Lib.hid hke
   clear hkl hke hK0 hK1 hK2 hK3
   obtain ⟨c0,f0,lg0⟩:=HM.out.get HFN.out (by omega) HE0.out
   have HM1:=Lib.hid (HM.out.put HFN.out HE0.out (y:=k0+(K0:Int)) (by rw [HK0.out]))
   obtain ⟨c1,f1,lg1⟩:=HM.out.get HFN.out (by omega) HE1.out
   have HM2:=Lib.hid (HM1.out.put HFN.out HE1.out (y:=k0+(K0:Int)+1) (by rw [HK1.out];omega))
   obtain ⟨c2,f2,lg2⟩:=HM.out.get HFN.out (by omega) HE2.out
   have HM3:=Lib.hid (HM2.out.put HFN.out HE2.out (y:=k0+(K0:Int)+1+1) (by rw [HK2.out];omega))
   go_wp2_with fail
   go_roundw
   case rel=>exact ⟨k+1,by omega,by go_num,by rw [HKE.out,HK3.out];congr 1;omega,by rw [HKE.out];exact HM3.out⟩
   case measure=>simp [intOf];omega
  ·have hkn:k=n:=by omega
   subst hkn
   have hd:=HM.out.done (by rw [flatLen (s:=3) (fun _=>rfl),HL.out];exact Nat.le_refl _)
   have HD:=Lib.hid hd
   have HV:Hid (cntL ((xs.flatMap SgT.cells).take (k * 3))=cntC (celSg xs)):=by show _=_;rw [HCN.out,List.take_of_length_le (by rw [flatLen (s:=3) (fun _=>rfl),HL.out];exact Nat.le_refl _)]
   rw [HV.out]
   clear hd
   go_wp2_with fail
   go_ret
   exact ⟨rfl,HD.out.1,HD.out.2⟩
set_option maxHeartbeats 2000000 in
theorem markOpS_any (A:Option Addr) (n c:Nat) (xs:List OpT) (F:List Nat) (k0:Int) (w:World) (h:OwnC w (celOp xs) (.slice A n c) F) (hF:F.Nodup) (hk0:0≤k0) (hk1:k0+(cntC (celOp xs):Int)≤1099511627776) :
  Calls Tryz.prog 173 #[.slice A n c,.int .i64 k0] w fun e w'=>e = .returned (.int .i64 (k0+(cntC (celOp xs):Int)))∧OwnC w' (mkC k0 (celOp xs)) (.slice A n c) F∧Only F w w':=by
 have hl:xs.length=n:=by have h1:=ownC_len h;unfold celOp at h1;rw [flatLen (s:=3) (fun _=>rfl)] at h1;omega
 have hn:=ownC_le h
 have HL:=Lib.hid hl
 have HO:=Lib.hid h
 have HFN:=Lib.hid hF
 have HCN:Hid (cntC (celOp xs)=cntL (xs.flatMap OpT.cells)):=by show _=_;rw [celOp,cntC]
 rw [HCN.out] at hk1
 have HK1:=Lib.hid hk1
 clear h hF hl
 by_cases hn0:n=0
 ·subst hn0
  have hx:xs=[]:=List.eq_nil_of_length_eq_zero HL.out
  subst hx
  go_enter Tryz.func173,Tryz.ntmps173
  go_wp2_with fail
  go_loopw [1,5] (fun v i wr=>v = .int .i64 k0∧i = .int .i64 0∧w=wr) (fun _ _ _=>0)
  case atStart=>exact ⟨rfl,rfl,rfl⟩
  case round =>
   obtain ⟨rfl,rfl,rfl⟩:=hrel
   go_wp2_with fail
   go_ret
   exact ⟨ret_int (by rw [HCN.out];simp [cntL]),HO.out,Only.refl _ _⟩
 obtain ⟨g,rfl,hm0⟩:=mkd_start (k0:=k0) HO.out (by rw [ownC_len HO.out];omega)
 have HM0:=Lib.hid hm0
 clear hm0 HO
 go_enter Tryz.func173,Tryz.ntmps173
 go_wp2_with fail
 go_loopw [1,5] (fun v i wr=>∃k:Nat,k≤n∧i = .int .i64 (k:Int)∧v = .int .i64 (k0+(cntL ((xs.flatMap OpT.cells).take (k * 3)):Int))∧Mkd F 198 3 n c g k0 (xs.flatMap OpT.cells) w wr (k * 3)) (fun _ i _=>n - (intOf i).toNat)
 case atStart=>exact ⟨0,by omega,rfl,by simp [cntL],by rw [Nat.zero_mul];exact HM0.out⟩
 case round =>
  obtain ⟨k,hk,rfl,rfl,hm⟩:=hrel
  have HM:=Lib.hid hm
  clear hm
  by_cases hlt:k<n
  ·have hkl:k<xs.length:=by rw [HL.out];exact hlt
   have HE0:Hid ((xs.flatMap OpT.cells)[k * 3]?=some (.int ((xs[k]?.getD OpT.zero).kind))):=flat_getR (cells:=OpT.cells) (s:=3) (z:=OpT.zero) (r:=0) (fun _=>rfl) hkl (by omega)
   have hs0:=cntL_succ HE0.out
   have HE1:Hid ((xs.flatMap OpT.cells)[k * 3+1]?=some (.int ((xs[k]?.getD OpT.zero).a))):=flat_getR (cells:=OpT.cells) (s:=3) (z:=OpT.zero) (r:=1) (fun _=>rfl) hkl (by omega)
   have hs1:=cntL_succ HE1.out
   have HE2:Hid ((xs.flatMap OpT.cells)[k * 3+2]?=some (.int ((xs[k]?.getD OpT.zero).b))):=flat_getR (cells:=OpT.cells) (s:=3) (z:=OpT.zero) (r:=2) (fun _=>rfl) hkl (by omega)
   have hs2:=cntL_succ HE2.out
   have hle:=cntL_take_le (xs.flatMap OpT.cells) (k * 3+3)
   try simp only [cntC] at hs0
   try simp only [cntC] at hs1
   try simp only [cntC] at hs2
   have hke:(k+1) * 3=k * 3+3:=by omega
   generalize hK0:cntL ((xs.flatMap OpT.cells).take (k * 3))=K0 at *
   generalize hK1:cntL ((xs.flatMap OpT.cells).take (k * 3+1))=K1 at *
   generalize hK2:cntL ((xs.flatMap OpT.cells).take (k * 3+2))=K2 at *
   generalize hK3:cntL ((xs.flatMap OpT.cells).take (k * 3+3))=K3 at *
   have hk1:=HK1.out
   have HK0:=Lib.hid hK0
   have HK1:=Lib.hid hK1
   have HK2:=Lib.hid hK2
   have HK3:=Lib.hid hK3
   have i0:(0:Int)≤(k:Int):=by omega
   have i1:(k:Int)<(n:Int):=by omega
   have HKE:=Lib.hid hke
   clear hkl hke hK0 hK1 hK2 hK3
   obtain ⟨c0,f0,lg0⟩:=HM.out.get HFN.out (by omega) HE0.out
   have HM1:=Lib.hid (HM.out.put HFN.out HE0.out (y:=k0+(K0:Int)) (by rw [HK0.out]))
   obtain ⟨c1,f1,lg1⟩:=HM.out.get HFN.out (by omega) HE1.out
   have HM2:=Lib.hid (HM1.out.put HFN.out HE1.out (y:=k0+(K0:Int)+1) (by rw [HK1.out];omega))
   obtain ⟨c2,f2,lg2⟩:=HM.out.get HFN.out (by omega) HE2.out
   have HM3:=Lib.hid (HM2.out.put HFN.out HE2.out (y:=k0+(K0:Int)+1+1) (by rw [HK2.out];omega))
   go_wp2_with fail
   go_roundw
   case rel=>exact ⟨k+1,by omega,by go_num,by rw [HKE.out,HK3.out];congr 1;omega,by rw [HKE.out];exact HM3.out⟩
   case measure=>simp [intOf];omega
  ·have hkn:k=n:=by omega
   subst hkn
   have hd:=HM.out.done (by rw [flatLen (s:=3) (fun _=>rfl),HL.out];exact Nat.le_refl _)
   have HD:=Lib.hid hd
   have HV:Hid (cntL ((xs.flatMap OpT.cells).take (k * 3))=cntC (celOp xs)):=by show _=_;rw [HCN.out,List.take_of_length_le (by rw [flatLen (s:=3) (fun _=>rfl),HL.out];exact Nat.le_refl _)]
   rw [HV.out]
   clear hd
   go_wp2_with fail
   go_ret
   exact ⟨rfl,HD.out.1,HD.out.2⟩
set_option maxHeartbeats 2000000 in
theorem markAssignS_any (A:Option Addr) (n c:Nat) (xs:List AsT) (F:List Nat) (k0:Int) (w:World) (h:OwnC w (celAs xs) (.slice A n c) F) (hF:F.Nodup) (hk0:0≤k0) (hk1:k0+(cntC (celAs xs):Int)≤1099511627776) :
  Calls Tryz.prog 115 #[.slice A n c,.int .i64 k0] w fun e w'=>e = .returned (.int .i64 (k0+(cntC (celAs xs):Int)))∧OwnC w' (mkC k0 (celAs xs)) (.slice A n c) F∧Only F w w':=by
 have hl:xs.length=n:=by have h1:=ownC_len h;unfold celAs at h1;rw [flatLen (s:=2) (fun _=>rfl)] at h1;omega
 have hn:=ownC_le h
 have HL:=Lib.hid hl
 have HO:=Lib.hid h
 have HFN:=Lib.hid hF
 have HCN:Hid (cntC (celAs xs)=cntL (xs.flatMap AsT.cells)):=by show _=_;rw [celAs,cntC]
 rw [HCN.out] at hk1
 have HK1:=Lib.hid hk1
 clear h hF hl
 by_cases hn0:n=0
 ·subst hn0
  have hx:xs=[]:=List.eq_nil_of_length_eq_zero HL.out
  subst hx
  go_enter Tryz.func115,Tryz.ntmps115
  go_wp2_with fail
  go_loopw [1,5] (fun v i wr=>v = .int .i64 k0∧i = .int .i64 0∧w=wr) (fun _ _ _=>0)
  case atStart=>exact ⟨rfl,rfl,rfl⟩
  case round =>
   obtain ⟨rfl,rfl,rfl⟩:=hrel
   go_wp2_with fail
   go_ret
   exact ⟨ret_int (by rw [HCN.out];simp [cntL]),HO.out,Only.refl _ _⟩
 obtain ⟨g,rfl,hm0⟩:=mkd_start (k0:=k0) HO.out (by rw [ownC_len HO.out];omega)
 have HM0:=Lib.hid hm0
 clear hm0 HO
 go_enter Tryz.func115,Tryz.ntmps115
 go_wp2_with fail
 go_loopw [1,5] (fun v i wr=>∃k:Nat,k≤n∧i = .int .i64 (k:Int)∧v = .int .i64 (k0+(cntL ((xs.flatMap AsT.cells).take (k * 2)):Int))∧Mkd F 196 2 n c g k0 (xs.flatMap AsT.cells) w wr (k * 2)) (fun _ i _=>n - (intOf i).toNat)
 case atStart=>exact ⟨0,by omega,rfl,by simp [cntL],by rw [Nat.zero_mul];exact HM0.out⟩
 case round =>
  obtain ⟨k,hk,rfl,rfl,hm⟩:=hrel
  have HM:=Lib.hid hm
  clear hm
  by_cases hlt:k<n
  ·have hkl:k<xs.length:=by rw [HL.out];exact hlt
   have HE0:Hid ((xs.flatMap AsT.cells)[k * 2]?=some (.int ((xs[k]?.getD AsT.zero).target))):=flat_getR (cells:=AsT.cells) (s:=2) (z:=AsT.zero) (r:=0) (fun _=>rfl) hkl (by omega)
   have hs0:=cntL_succ HE0.out
   have HE1:Hid ((xs.flatMap AsT.cells)[k * 2+1]?=some (celOp (xs[k]?.getD AsT.zero).ops)):=flat_getR (cells:=AsT.cells) (s:=2) (z:=AsT.zero) (r:=1) (fun _=>rfl) hkl (by omega)
   have hs1:=cntL_succ HE1.out
   have hle:=cntL_take_le (xs.flatMap AsT.cells) (k * 2+2)
   try simp only [cntC] at hs0
   have hke:(k+1) * 2=k * 2+2:=by omega
   generalize hK0:cntL ((xs.flatMap AsT.cells).take (k * 2))=K0 at *
   generalize hK1:cntL ((xs.flatMap AsT.cells).take (k * 2+1))=K1 at *
   generalize hK2:cntL ((xs.flatMap AsT.cells).take (k * 2+2))=K2 at *
   generalize hq1:cntC (celOp (xs[k]?.getD AsT.zero).ops)=q1 at *
   have hk1:=HK1.out
   have HK0:=Lib.hid hK0
   have HK1:=Lib.hid hK1
   have HK2:=Lib.hid hK2
   have HQ1:=Lib.hid hq1
   have i0:(0:Int)≤(k:Int):=by omega
   have i1:(k:Int)<(n:Int):=by omega
   have HKE:=Lib.hid hke
   clear hkl hke hK0 hK1 hK2 hq1
   obtain ⟨c0,f0,lg0⟩:=HM.out.get HFN.out (by omega) HE0.out
   have HM1:=Lib.hid (HM.out.put HFN.out HE0.out (y:=k0+(K0:Int)) (by rw [HK0.out]))
   obtain ⟨S1,m1,p1,G1,hc1,lg1,ho1,hn1,hu1⟩:=HM1.out.row HFN.out HE1.out
   rw [cell_setN (by omega)] at hc1
   simp only [World.size_setCell] at lg1
   have HO1:=Lib.hid ho1
   have HU1:=Lib.hid hu1
   have HNG1:=Lib.hid hn1
   clear ho1 hu1 hn1
   have hsl1:=ownC_le HO1.out
   go_wp2_with fail
   refine (markOpS_any S1 m1 p1 _ G1 _ _ HO1.out HNG1.out (by omega) (by rw [HQ1.out];omega)).mono ?_
   rw [HQ1.out]
   rintro _ w1 ⟨rfl,o1,g1⟩
   have HM2:=Lib.hid (HU1.out _ w1 (by rw [HK1.out];omega) o1 g1)
   clear o1 g1 HO1 HU1 HNG1 hsl1 c0 f0 lg0 hc1 lg1
   go_wp2_with fail
   go_roundw
   case rel=>exact ⟨k+1,by omega,by go_num,by rw [HKE.out,HK2.out];congr 1;omega,by rw [HKE.out];exact HM2.out⟩
   case measure=>simp [intOf];omega
  ·have hkn:k=n:=by omega
   subst hkn
   have hd:=HM.out.done (by rw [flatLen (s:=2) (fun _=>rfl),HL.out];exact Nat.le_refl _)
   have HD:=Lib.hid hd
   have HV:Hid (cntL ((xs.flatMap AsT.cells).take (k * 2))=cntC (celAs xs)):=by show _=_;rw [HCN.out,List.take_of_length_le (by rw [flatLen (s:=2) (fun _=>rfl),HL.out];exact Nat.le_refl _)]
   rw [HV.out]
   clear hd
   go_wp2_with fail
   go_ret
   exact ⟨rfl,HD.out.1,HD.out.2⟩
set_option maxHeartbeats 2000000 in
theorem markInstS_any (A:Option Addr) (n c:Nat) (xs:List InT) (F:List Nat) (k0:Int) (w:World) (h:OwnC w (celIn xs) (.slice A n c) F) (hF:F.Nodup) (hk0:0≤k0) (hk1:k0+(cntC (celIn xs):Int)≤1099511627776) :
  Calls Tryz.prog 116 #[.slice A n c,.int .i64 k0] w fun e w'=>e = .returned (.int .i64 (k0+(cntC (celIn xs):Int)))∧OwnC w' (mkC k0 (celIn xs)) (.slice A n c) F∧Only F w w':=by
 have hl:xs.length=n:=by have h1:=ownC_len h;unfold celIn at h1;rw [flatLen (s:=3) (fun _=>rfl)] at h1;omega
 have hn:=ownC_le h
 have HL:=Lib.hid hl
 have HO:=Lib.hid h
 have HFN:=Lib.hid hF
 have HCN:Hid (cntC (celIn xs)=cntL (xs.flatMap InT.cells)):=by show _=_;rw [celIn,cntC]
 rw [HCN.out] at hk1
 have HK1:=Lib.hid hk1
 clear h hF hl
 by_cases hn0:n=0
 ·subst hn0
  have hx:xs=[]:=List.eq_nil_of_length_eq_zero HL.out
  subst hx
  go_enter Tryz.func116,Tryz.ntmps116
  go_wp2_with fail
  go_loopw [1,5] (fun v i wr=>v = .int .i64 k0∧i = .int .i64 0∧w=wr) (fun _ _ _=>0)
  case atStart=>exact ⟨rfl,rfl,rfl⟩
  case round =>
   obtain ⟨rfl,rfl,rfl⟩:=hrel
   go_wp2_with fail
   go_ret
   exact ⟨ret_int (by rw [HCN.out];simp [cntL]),HO.out,Only.refl _ _⟩
 obtain ⟨g,rfl,hm0⟩:=mkd_start (k0:=k0) HO.out (by rw [ownC_len HO.out];omega)
 have HM0:=Lib.hid hm0
 clear hm0 HO
 go_enter Tryz.func116,Tryz.ntmps116
 go_wp2_with fail
 go_loopw [1,5] (fun v i wr=>∃k:Nat,k≤n∧i = .int .i64 (k:Int)∧v = .int .i64 (k0+(cntL ((xs.flatMap InT.cells).take (k * 3)):Int))∧Mkd F 202 3 n c g k0 (xs.flatMap InT.cells) w wr (k * 3)) (fun _ i _=>n - (intOf i).toNat)
 case atStart=>exact ⟨0,by omega,rfl,by simp [cntL],by rw [Nat.zero_mul];exact HM0.out⟩
 case round =>
  obtain ⟨k,hk,rfl,rfl,hm⟩:=hrel
  have HM:=Lib.hid hm
  clear hm
  by_cases hlt:k<n
  ·have hkl:k<xs.length:=by rw [HL.out];exact hlt
   have HE0:Hid ((xs.flatMap InT.cells)[k * 3]?=some (.int ((xs[k]?.getD InT.zero).module))):=flat_getR (cells:=InT.cells) (s:=3) (z:=InT.zero) (r:=0) (fun _=>rfl) hkl (by omega)
   have hs0:=cntL_succ HE0.out
   have HE1:Hid ((xs.flatMap InT.cells)[k * 3+1]?=some (.int ((xs[k]?.getD InT.zero).param))):=flat_getR (cells:=InT.cells) (s:=3) (z:=InT.zero) (r:=1) (fun _=>rfl) hkl (by omega)
   have hs1:=cntL_succ HE1.out
   have HE2:Hid ((xs.flatMap InT.cells)[k * 3+2]?=some (celI (xs[k]?.getD InT.zero).ports)):=flat_getR (cells:=InT.cells) (s:=3) (z:=InT.zero) (r:=2) (fun _=>rfl) hkl (by omega)
   have hs2:=cntL_succ HE2.out
   have hle:=cntL_take_le (xs.flatMap InT.cells) (k * 3+3)
   try simp only [cntC] at hs0
   try simp only [cntC] at hs1
   have hke:(k+1) * 3=k * 3+3:=by omega
   generalize hK0:cntL ((xs.flatMap InT.cells).take (k * 3))=K0 at *
   generalize hK1:cntL ((xs.flatMap InT.cells).take (k * 3+1))=K1 at *
   generalize hK2:cntL ((xs.flatMap InT.cells).take (k * 3+2))=K2 at *
   generalize hK3:cntL ((xs.flatMap InT.cells).take (k * 3+3))=K3 at *
   generalize hq2:cntC (celI (xs[k]?.getD InT.zero).ports)=q2 at *
   have hk1:=HK1.out
   have HK0:=Lib.hid hK0
   have HK1:=Lib.hid hK1
   have HK2:=Lib.hid hK2
   have HK3:=Lib.hid hK3
   have HQ2:=Lib.hid hq2
   have i0:(0:Int)≤(k:Int):=by omega
   have i1:(k:Int)<(n:Int):=by omega
   have HKE:=Lib.hid hke
   clear hkl hke hK0 hK1 hK2 hK3 hq2
   obtain ⟨c0,f0,lg0⟩:=HM.out.get HFN.out (by omega) HE0.out
   have HM1:=Lib.hid (HM.out.put HFN.out HE0.out (y:=k0+(K0:Int)) (by rw [HK0.out]))
   obtain ⟨c1,f1,lg1⟩:=HM.out.get HFN.out (by omega) HE1.out
   have HM2:=Lib.hid (HM1.out.put HFN.out HE1.out (y:=k0+(K0:Int)+1) (by rw [HK1.out];omega))
   obtain ⟨S2,m2,p2,G2,hc2,lg2,ho2,hn2,hu2⟩:=HM2.out.row HFN.out HE2.out
   rw [cell_setN (by omega),cell_setN (by omega)] at hc2
   simp only [World.size_setCell] at lg2
   have HO2:=Lib.hid ho2
   have HU2:=Lib.hid hu2
   have HNG2:=Lib.hid hn2
   clear ho2 hu2 hn2
   have hsl2:=ownC_le HO2.out
   go_wp2_with fail
   refine (markIntS_c S2 m2 p2 _ G2 _ _ HO2.out HNG2.out (by omega) (by rw [HQ2.out];omega)).mono ?_
   rw [HQ2.out]
   rintro _ w1 ⟨rfl,o1,g1⟩
   have HM3:=Lib.hid (HU2.out _ w1 (by rw [HK2.out];omega) o1 g1)
   clear o1 g1 HO2 HU2 HNG2 hsl2 c0 f0 lg0 c1 f1 lg1 hc2 lg2
   go_wp2_with fail
   go_roundw
   case rel=>exact ⟨k+1,by omega,by go_num,by rw [HKE.out,HK3.out];congr 1;omega,by rw [HKE.out];exact HM3.out⟩
   case measure=>simp [intOf];omega
  ·have hkn:k=n:=by omega
   subst hkn
   have hd:=HM.out.done (by rw [flatLen (s:=3) (fun _=>rfl),HL.out];exact Nat.le_refl _)
   have HD:=Lib.hid hd
   have HV:Hid (cntL ((xs.flatMap InT.cells).take (k * 3))=cntC (celIn xs)):=by show _=_;rw [HCN.out,List.take_of_length_le (by rw [flatLen (s:=3) (fun _=>rfl),HL.out];exact Nat.le_refl _)]
   rw [HV.out]
   clear hd
   go_wp2_with fail
   go_ret
   exact ⟨rfl,HD.out.1,HD.out.2⟩
set_option maxHeartbeats 2000000 in
theorem markMemS_any (A:Option Addr) (n c:Nat) (xs:List MmT) (F:List Nat) (k0:Int) (w:World) (h:OwnC w (celMm xs) (.slice A n c) F) (hF:F.Nodup) (hk0:0≤k0) (hk1:k0+(cntC (celMm xs):Int)≤1099511627776) :
  Calls Tryz.prog 117 #[.slice A n c,.int .i64 k0] w fun e w'=>e = .returned (.int .i64 (k0+(cntC (celMm xs):Int)))∧OwnC w' (mkC k0 (celMm xs)) (.slice A n c) F∧Only F w w':=by
 have hl:xs.length=n:=by have h1:=ownC_len h;unfold celMm at h1;rw [flatLen (s:=4) (fun _=>rfl)] at h1;omega
 have hn:=ownC_le h
 have HL:=Lib.hid hl
 have HO:=Lib.hid h
 have HFN:=Lib.hid hF
 have HCN:Hid (cntC (celMm xs)=cntL (xs.flatMap MmT.cells)):=by show _=_;rw [celMm,cntC]
 rw [HCN.out] at hk1
 have HK1:=Lib.hid hk1
 clear h hF hl
 by_cases hn0:n=0
 ·subst hn0
  have hx:xs=[]:=List.eq_nil_of_length_eq_zero HL.out
  subst hx
  go_enter Tryz.func117,Tryz.ntmps117
  go_wp2_with fail
  go_loopw [1,5] (fun v i wr=>v = .int .i64 k0∧i = .int .i64 0∧w=wr) (fun _ _ _=>0)
  case atStart=>exact ⟨rfl,rfl,rfl⟩
  case round =>
   obtain ⟨rfl,rfl,rfl⟩:=hrel
   go_wp2_with fail
   go_ret
   exact ⟨ret_int (by rw [HCN.out];simp [cntL]),HO.out,Only.refl _ _⟩
 obtain ⟨g,rfl,hm0⟩:=mkd_start (k0:=k0) HO.out (by rw [ownC_len HO.out];omega)
 have HM0:=Lib.hid hm0
 clear hm0 HO
 go_enter Tryz.func117,Tryz.ntmps117
 go_wp2_with fail
 go_loopw [1,5] (fun v i wr=>∃k:Nat,k≤n∧i = .int .i64 (k:Int)∧v = .int .i64 (k0+(cntL ((xs.flatMap MmT.cells).take (k * 4)):Int))∧Mkd F 200 4 n c g k0 (xs.flatMap MmT.cells) w wr (k * 4)) (fun _ i _=>n - (intOf i).toNat)
 case atStart=>exact ⟨0,by omega,rfl,by simp [cntL],by rw [Nat.zero_mul];exact HM0.out⟩
 case round =>
  obtain ⟨k,hk,rfl,rfl,hm⟩:=hrel
  have HM:=Lib.hid hm
  clear hm
  by_cases hlt:k<n
  ·have hkl:k<xs.length:=by rw [HL.out];exact hlt
   have HE0:Hid ((xs.flatMap MmT.cells)[k * 4]?=some (.int ((xs[k]?.getD MmT.zero).addr))):=flat_getR (cells:=MmT.cells) (s:=4) (z:=MmT.zero) (r:=0) (fun _=>rfl) hkl (by omega)
   have hs0:=cntL_succ HE0.out
   have HE1:Hid ((xs.flatMap MmT.cells)[k * 4+1]?=some (.int ((xs[k]?.getD MmT.zero).data))):=flat_getR (cells:=MmT.cells) (s:=4) (z:=MmT.zero) (r:=1) (fun _=>rfl) hkl (by omega)
   have hs1:=cntL_succ HE1.out
   have HE2:Hid ((xs.flatMap MmT.cells)[k * 4+2]?=some (.int ((xs[k]?.getD MmT.zero).write))):=flat_getR (cells:=MmT.cells) (s:=4) (z:=MmT.zero) (r:=2) (fun _=>rfl) hkl (by omega)
   have hs2:=cntL_succ HE2.out
   have HE3:Hid ((xs.flatMap MmT.cells)[k * 4+3]?=some (.int ((xs[k]?.getD MmT.zero).out))):=flat_getR (cells:=MmT.cells) (s:=4) (z:=MmT.zero) (r:=3) (fun _=>rfl) hkl (by omega)
   have hs3:=cntL_succ HE3.out
   have hle:=cntL_take_le (xs.flatMap MmT.cells) (k * 4+4)
   try simp only [cntC] at hs0
   try simp only [cntC] at hs1
   try simp only [cntC] at hs2
   try simp only [cntC] at hs3
   have hke:(k+1) * 4=k * 4+4:=by omega
   generalize hK0:cntL ((xs.flatMap MmT.cells).take (k * 4))=K0 at *
   generalize hK1:cntL ((xs.flatMap MmT.cells).take (k * 4+1))=K1 at *
   generalize hK2:cntL ((xs.flatMap MmT.cells).take (k * 4+2))=K2 at *
   generalize hK3:cntL ((xs.flatMap MmT.cells).take (k * 4+3))=K3 at *
   generalize hK4:cntL ((xs.flatMap MmT.cells).take (k * 4+4))=K4 at *
   have hk1:=HK1.out
   have HK0:=Lib.hid hK0
   have HK1:=Lib.hid hK1
   have HK2:=Lib.hid hK2
   have HK3:=Lib.hid hK3
   have HK4:=Lib.hid hK4
   have i0:(0:Int)≤(k:Int):=by omega
   have i1:(k:Int)<(n:Int):=by omega
   have HKE:=Lib.hid hke
   clear hkl hke hK0 hK1 hK2 hK3 hK4
   obtain ⟨c0,f0,lg0⟩:=HM.out.get HFN.out (by omega) HE0.out
   have HM1:=Lib.hid (HM.out.put HFN.out HE0.out (y:=k0+(K0:Int)) (by rw [HK0.out]))
   obtain ⟨c1,f1,lg1⟩:=HM.out.get HFN.out (by omega) HE1.out
   have HM2:=Lib.hid (HM1.out.put HFN.out HE1.out (y:=k0+(K0:Int)+1) (by rw [HK1.out];omega))
   obtain ⟨c2,f2,lg2⟩:=HM.out.get HFN.out (by omega) HE2.out
   have HM3:=Lib.hid (HM2.out.put HFN.out HE2.out (y:=k0+(K0:Int)+1+1) (by rw [HK2.out];omega))
   obtain ⟨c3,f3,lg3⟩:=HM.out.get HFN.out (by omega) HE3.out
   have HM4:=Lib.hid (HM3.out.put HFN.out HE3.out (y:=k0+(K0:Int)+1+1+1) (by rw [HK3.out];omega))
   go_wp2_with fail
   go_roundw
   case rel=>exact ⟨k+1,by omega,by go_num,by rw [HKE.out,HK4.out];congr 1;omega,by rw [HKE.out];exact HM4.out⟩
   case measure=>simp [intOf];omega
  ·have hkn:k=n:=by omega
   subst hkn
   have hd:=HM.out.done (by rw [flatLen (s:=4) (fun _=>rfl),HL.out];exact Nat.le_refl _)
   have HD:=Lib.hid hd
   have HV:Hid (cntL ((xs.flatMap MmT.cells).take (k * 4))=cntC (celMm xs)):=by show _=_;rw [HCN.out,List.take_of_length_le (by rw [flatLen (s:=4) (fun _=>rfl),HL.out];exact Nat.le_refl _)]
   rw [HV.out]
   clear hd
   go_wp2_with fail
   go_ret
   exact ⟨rfl,HD.out.1,HD.out.2⟩
set_option maxHeartbeats 2000000 in
theorem markModuleS_any (A:Option Addr) (n c:Nat) (xs:List MdT) (F:List Nat) (k0:Int) (w:World) (h:OwnC w (celMd xs) (.slice A n c) F) (hF:F.Nodup) (hk0:0≤k0) (hk1:k0+(cntC (celMd xs):Int)≤1099511627776) :
  Calls Tryz.prog 65 #[.slice A n c,.int .i64 k0] w fun e w'=>e = .returned (.int .i64 (k0+(cntC (celMd xs):Int)))∧OwnC w' (mkC k0 (celMd xs)) (.slice A n c) F∧Only F w w':=by
 have hl:xs.length=n:=by have h1:=ownC_len h;unfold celMd at h1;rw [flatLen (s:=4) (fun _=>rfl)] at h1;omega
 have hn:=ownC_le h
 have HL:=Lib.hid hl
 have HO:=Lib.hid h
 have HFN:=Lib.hid hF
 have HCN:Hid (cntC (celMd xs)=cntL (xs.flatMap MdT.cells)):=by show _=_;rw [celMd,cntC]
 rw [HCN.out] at hk1
 have HK1:=Lib.hid hk1
 clear h hF hl
 by_cases hn0:n=0
 ·subst hn0
  have hx:xs=[]:=List.eq_nil_of_length_eq_zero HL.out
  subst hx
  go_enter Tryz.func65,Tryz.ntmps65
  go_wp2_with fail
  go_loopw [1,5] (fun v i wr=>v = .int .i64 k0∧i = .int .i64 0∧w=wr) (fun _ _ _=>0)
  case atStart=>exact ⟨rfl,rfl,rfl⟩
  case round =>
   obtain ⟨rfl,rfl,rfl⟩:=hrel
   go_wp2_with fail
   go_ret
   exact ⟨ret_int (by rw [HCN.out];simp [cntL]),HO.out,Only.refl _ _⟩
 obtain ⟨g,rfl,hm0⟩:=mkd_start (k0:=k0) HO.out (by rw [ownC_len HO.out];omega)
 have HM0:=Lib.hid hm0
 clear hm0 HO
 go_enter Tryz.func65,Tryz.ntmps65
 go_wp2_with fail
 go_loopw [1,5] (fun v i wr=>∃k:Nat,k≤n∧i = .int .i64 (k:Int)∧v = .int .i64 (k0+(cntL ((xs.flatMap MdT.cells).take (k * 4)):Int))∧Mkd F 108 4 n c g k0 (xs.flatMap MdT.cells) w wr (k * 4)) (fun _ i _=>n - (intOf i).toNat)
 case atStart=>exact ⟨0,by omega,rfl,by simp [cntL],by rw [Nat.zero_mul];exact HM0.out⟩
 case round =>
  obtain ⟨k,hk,rfl,rfl,hm⟩:=hrel
  have HM:=Lib.hid hm
  clear hm
  by_cases hlt:k<n
  ·have hkl:k<xs.length:=by rw [HL.out];exact hlt
   have HE0:Hid ((xs.flatMap MdT.cells)[k * 4]?=some (celSg (xs[k]?.getD MdT.zero).sigs)):=flat_getR (cells:=MdT.cells) (s:=4) (z:=MdT.zero) (r:=0) (fun _=>rfl) hkl (by omega)
   have hs0:=cntL_succ HE0.out
   have HE1:Hid ((xs.flatMap MdT.cells)[k * 4+1]?=some (celAs (xs[k]?.getD MdT.zero).asgs)):=flat_getR (cells:=MdT.cells) (s:=4) (z:=MdT.zero) (r:=1) (fun _=>rfl) hkl (by omega)
   have hs1:=cntL_succ HE1.out
   have HE2:Hid ((xs.flatMap MdT.cells)[k * 4+2]?=some (celIn (xs[k]?.getD MdT.zero).insts)):=flat_getR (cells:=MdT.cells) (s:=4) (z:=MdT.zero) (r:=2) (fun _=>rfl) hkl (by omega)
   have hs2:=cntL_succ HE2.out
   have HE3:Hid ((xs.flatMap MdT.cells)[k * 4+3]?=some (celMm (xs[k]?.getD MdT.zero).mems)):=flat_getR (cells:=MdT.cells) (s:=4) (z:=MdT.zero) (r:=3) (fun _=>rfl) hkl (by omega)
   have hs3:=cntL_succ HE3.out
   have hle:=cntL_take_le (xs.flatMap MdT.cells) (k * 4+4)
   have hke:(k+1) * 4=k * 4+4:=by omega
   generalize hK0:cntL ((xs.flatMap MdT.cells).take (k * 4))=K0 at *
   generalize hK1:cntL ((xs.flatMap MdT.cells).take (k * 4+1))=K1 at *
   generalize hK2:cntL ((xs.flatMap MdT.cells).take (k * 4+2))=K2 at *
   generalize hK3:cntL ((xs.flatMap MdT.cells).take (k * 4+3))=K3 at *
   generalize hK4:cntL ((xs.flatMap MdT.cells).take (k * 4+4))=K4 at *
   generalize hq0:cntC (celSg (xs[k]?.getD MdT.zero).sigs)=q0 at *
   generalize hq1:cntC (celAs (xs[k]?.getD MdT.zero).asgs)=q1 at *
   generalize hq2:cntC (celIn (xs[k]?.getD MdT.zero).insts)=q2 at *
   generalize hq3:cntC (celMm (xs[k]?.getD MdT.zero).mems)=q3 at *
   have hk1:=HK1.out
   have HK0:=Lib.hid hK0
   have HK1:=Lib.hid hK1
   have HK2:=Lib.hid hK2
   have HK3:=Lib.hid hK3
   have HK4:=Lib.hid hK4
   have HQ0:=Lib.hid hq0
   have HQ1:=Lib.hid hq1
   have HQ2:=Lib.hid hq2
   have HQ3:=Lib.hid hq3
   have i0:(0:Int)≤(k:Int):=by omega
   have i1:(k:Int)<(n:Int):=by omega
   have HKE:=Lib.hid hke
   clear hkl hke hK0 hK1 hK2 hK3 hK4 hq0 hq1 hq2 hq3
   obtain ⟨S0,m0,p0,G0,hc0,lg0,ho0,hn0,hu0⟩:=HM.out.row HFN.out HE0.out
   have HO0:=Lib.hid ho0
   have HU0:=Lib.hid hu0
   have HNG0:=Lib.hid hn0
   clear ho0 hu0 hn0
   have hsl0:=ownC_le HO0.out
   go_wp2_with fail
   refine (markSignalS_any S0 m0 p0 _ G0 _ _ HO0.out HNG0.out (by omega) (by rw [HQ0.out];omega)).mono ?_
   rw [HQ0.out]
   rintro _ w1 ⟨rfl,o1,g1⟩
   have HM1:=Lib.hid (HU0.out _ w1 (by rw [HK0.out]) o1 g1)
   clear o1 g1 HO0 HU0 HNG0 hsl0 hc0 lg0
   obtain ⟨S1,m1,p1,G1,hc1,lg1,ho1,hn1,hu1⟩:=HM1.out.row HFN.out HE1.out
   have HO1:=Lib.hid ho1
   have HU1:=Lib.hid hu1
   have HNG1:=Lib.hid hn1
   clear ho1 hu1 hn1
   have hsl1:=ownC_le HO1.out
   go_wp2_with fail
   refine (markAssignS_any S1 m1 p1 _ G1 _ _ HO1.out HNG1.out (by omega) (by rw [HQ1.out];omega)).mono ?_
   rw [HQ1.out]
   rintro _ w2 ⟨rfl,o2,g2⟩
   have HM2:=Lib.hid (HU1.out _ w2 (by rw [HK1.out];omega) o2 g2)
   clear o2 g2 HO1 HU1 HNG1 hsl1 hc1 lg1
   obtain ⟨S2,m2,p2,G2,hc2,lg2,ho2,hn2,hu2⟩:=HM2.out.row HFN.out HE2.out
   have HO2:=Lib.hid ho2
   have HU2:=Lib.hid hu2
   have HNG2:=Lib.hid hn2
   clear ho2 hu2 hn2
   have hsl2:=ownC_le HO2.out
   go_wp2_with fail
   refine (markInstS_any S2 m2 p2 _ G2 _ _ HO2.out HNG2.out (by omega) (by rw [HQ2.out];omega)).mono ?_
   rw [HQ2.out]
   rintro _ w3 ⟨rfl,o3,g3⟩
   have HM3:=Lib.hid (HU2.out _ w3 (by rw [HK2.out];omega) o3 g3)
   clear o3 g3 HO2 HU2 HNG2 hsl2 hc2 lg2
   obtain ⟨S3,m3,p3,G3,hc3,lg3,ho3,hn3,hu3⟩:=HM3.out.row HFN.out HE3.out
   have HO3:=Lib.hid ho3
   have HU3:=Lib.hid hu3
   have HNG3:=Lib.hid hn3
   clear ho3 hu3 hn3
   have hsl3:=ownC_le HO3.out
   go_wp2_with fail
   refine (markMemS_any S3 m3 p3 _ G3 _ _ HO3.out HNG3.out (by omega) (by rw [HQ3.out];omega)).mono ?_
   rw [HQ3.out]
   rintro _ w4 ⟨rfl,o4,g4⟩
   have HM4:=Lib.hid (HU3.out _ w4 (by rw [HK3.out];omega) o4 g4)
   clear o4 g4 HO3 HU3 HNG3 hsl3 hc3 lg3
   go_wp2_with fail
   go_roundw
   case rel=>exact ⟨k+1,by omega,by go_num,by rw [HKE.out,HK4.out];congr 1;omega,by rw [HKE.out];exact HM4.out⟩
   case measure=>simp [intOf];omega
  ·have hkn:k=n:=by omega
   subst hkn
   have hd:=HM.out.done (by rw [flatLen (s:=4) (fun _=>rfl),HL.out];exact Nat.le_refl _)
   have HD:=Lib.hid hd
   have HV:Hid (cntL ((xs.flatMap MdT.cells).take (k * 4))=cntC (celMd xs)):=by show _=_;rw [HCN.out,List.take_of_length_le (by rw [flatLen (s:=4) (fun _=>rfl),HL.out];exact Nat.le_refl _)]
   rw [HV.out]
   clear hd
   go_wp2_with fail
   go_ret
   exact ⟨rfl,HD.out.1,HD.out.2⟩
end Go.Proofs.YtlinbdkbbhpdpaaGreat
