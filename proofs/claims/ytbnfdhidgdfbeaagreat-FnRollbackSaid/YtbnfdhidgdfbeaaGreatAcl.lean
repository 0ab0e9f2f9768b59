/- Whether the frames of tiles are clean; worlds behind one store (printed by mkop.py). -/
import Derived.Test.YtbnfdhidgdfbeaaGreatAb
namespace Go.Proofs.YtbnfdhidgdfbeaaGreat
set_option maxRecDepth 100000
open Go.RowKit
/-- w' is w with one store, whatever was drawn beside it. -/
structure PutH (w:World) (g k:Nat) (v:Value) (w':World):Prop where
 os:w'.os=w.os
 tape:w'.tape=w.tape
 output:w'.output=w.output
 heap:w'.heap=(w.setCell ⟨g,k,none⟩ v).heap
theorem PutH.size {w w':World} {g k:Nat} {v:Value} (h:PutH w g k v w'):w'.heap.size=w.heap.size:=by rw [h.heap];simp
theorem PutH.far {w w':World} {g k i:Nat} {v:Value} (h:PutH w g k v w') (hi:i≠g):w'.heap[i]?=w.heap[i]?:=by rw [h.heap];exact Below.heap_setCell w ⟨g,k,none⟩ v i hi
theorem PutH.below {w w':World} {g k lo:Nat} {v:Value} (h:PutH w g k v w') {a:World} (hb:Below lo a w) (hg:lo≤g):Below lo a w' :=
 ⟨h.os.trans hb.os,h.tape.trans hb.tape,h.output.trans hb.output,by rw [h.size];exact hb.size,fun i hi=>(h.far (by omega)).trans (hb.block i hi)⟩
theorem PutH.bk {w w':World} {g k g':Nat} {v:Value} {b:Bd} {s:Sl3} (h:PutH w g k v w') (hx:BkAt w g' b s) (hn:g'≠g):BkAt w' g' b s:=(h.far hn).trans hx
theorem PutH.ints {w w':World} {g k:Nat} {v:Value} {A:Option Addr} {n:Nat} {xs:List Int} (h:PutH w g k v w') (hx:Ints w A n xs) (hn:∀a,A=some a→a.block≠g):Ints w' A n xs:=by
 refine ⟨hx.1,fun h0=>?_⟩
 obtain ⟨b,o,rfl,hb,hc⟩:=hx.2 h0
 exact ⟨b,o,rfl,by rw [h.size];exact hb,fun j hj=>(World.cell?_of_block (a:=⟨b,o+j,none⟩) (h.far (hn ⟨b,o,none⟩ rfl))).trans (hc j hj)⟩
theorem PutH.other {w w':World} {g k j:Nat} {v:Value} (h:PutH w g k v w') (hj:k≠j):w'.cell? ⟨g,j,none⟩=w.cell? ⟨g,j,none⟩:=by
 have e:w'.cell? ⟨g,j,none⟩=(w.setCell ⟨g,k,none⟩ v).cell? ⟨g,j,none⟩:=by unfold World.cell?;rw [h.heap]
 rw [e,World.cell?_setCell_other _ ⟨g,k,none⟩ ⟨g,j,none⟩ _ (by intro h;injection h with _ h;exact hj h)]
theorem PutH.fpFar {w w':World} {g k lo hi:Nat} {v:Value} {b:Bd} {s:Sl3} (hp:PutH w g k v w') (h:BoardFp lo hi w b s) (hn:g<lo∨hi≤g):BoardFp lo hi w' b s:=h.keep fun i _ h1 h2=>hp.far (by omega)
theorem PutH.ownFar {w w':World} {g k base:Nat} {v:Value} {A:Option Addr} {n c:Nat} {xs:List Int} (hp:PutH w g k v w') (h:Own base w A n c xs) (hn:∀a,A=some a→a.block≠g):Own base w' A n c xs:=ownsRow_block h fun a ha=>hp.far (hn a ha)
theorem PutH.own {w w':World} {g k base n c:Nat} {x:Int} {xs:List Int} (hp:PutH w g k (.int .i64 x) w') (h:Own base w (some ⟨g,0,none⟩) n c xs) (hk:k<n):Own base w' (some ⟨g,0,none⟩) n c (xs.set k x):=ownsRow_block (h.stored hk x) fun _ _=>by rw [hp.heap]
theorem PutH.frozen {w w':World} {g k:Nat} {v:Value} (h:PutH w g k v w') {a:Addr}:w'.frozen? a=w.frozen? a:=by
 have e:w'.frozen? a=(w.setCell ⟨g,k,none⟩ v).frozen? a:=by unfold World.frozen?;rw [h.heap]
 rw [e,World.frozen?_setCell]
theorem PutH.num {lo hi:Nat} {w w':World} {b b':Bd} {s:Sl3} {g k:Nat} {x:Int} (hp:PutH w g k (.int .i64 x) w') (h:BoardFp lo hi w b s) (hk:k<s.n2) (hA:s.A2=some ⟨g,0,none⟩)
  (e1:b'.frames=b.frames) (e2:b'.state=b.state.set k x) (e3:b'.saved=b.saved):BoardFp lo hi w' b' s :=
 (h.setNum hk hA e1 e2 e3).keep fun i _ _ _=>by rw [hp.heap]
theorem all_good {p:Nat→Bool} {n:Nat} (h:∀j,j<n→p j=true):(List.range n).all p=true:=by
 rw [List.all_eq_true]
 intro j hj
 exact h j (List.mem_range.1 hj)
theorem all_bad {p:Nat→Bool} {n k:Nat} (hk:k<n) (h:p k=false):(List.range n).all p=false:=by
 rw [List.all_eq_false]
 exact ⟨k,List.mem_range.2 hk,by rw [h];simp⟩
set_option maxHeartbeats 1000000 in
theorem allClean_any (A:Option Addr) (n c:Nat) (fs:List (List Int)) (T:Option Addr) (m tc:Nat) (ts:List Int) (w:World) (hA:Rows2 w A n fs) (hT:Ints w T m ts) (hin:∀j,j<m→0≤ts[j]?.getD 0∧ts[j]?.getD 0<(n:Int)) (hn:n≤1099511627776) (hrow:∀j:Nat,(fs[j]?.getD []).length≤1099511627776) (hm:m≤1099511627776) :
  Calls Tryz.prog 66 #[.slice A n c,.slice T m tc] w fun e w'=>e = .returned (.bool (clnF fs ts))∧w=w':=by
 obtain ⟨hx,hA⟩:=hA
 obtain ⟨hy,hT⟩:=hT
 have HX:=Lib.hid hx
 have HY:=Lib.hid hy
 have HIN:=Lib.hid hin
 have HROW:=Lib.hid hrow
 clear hx hy hin hrow
 go_enter Tryz.func66,Tryz.ntmps66
 go_wp2_with fail
 go_loop [13] (fun i=>∃k:Nat,k≤m∧i = .int .i64 k∧∀j,j<k→clnR (fs[(ts[j]?.getD 0).toNat]?.getD [])=true) (fun i=>m - (intOf i).toNat)
 case atStart=>exact ⟨0,Nat.zero_le _,rfl,by intro j hj;omega⟩
 case round =>
  obtain ⟨k,hk,rfl,hall⟩:=hrel
  have HALL:=Lib.hid hall
  clear hall
  by_cases hlt:k<m
  ·obtain ⟨bt,ot,rfl,hbt,hct⟩:=hT (by omega)
   have hck:=hct k hlt
   obtain ⟨t0,t1⟩:=HIN.out k hlt
   have HB:Hid (clnR (fs[(ts[k]?.getD 0).toNat]?.getD [])=false→clnF fs ts=false):=fun h=>all_bad (by rw [HY.out];exact hlt) h
   have HG:Hid (clnR (fs[(ts[k]?.getD 0).toNat]?.getD [])=true→∀j,j<k+1→clnR (fs[(ts[j]?.getD 0).toNat]?.getD [])=true):=fun h=>all_succ HALL.out h
   clear hct
   generalize ts[k]?.getD 0=t at *
   obtain ⟨tn,rfl⟩:=Int.eq_ofNat_of_zero_le t0
   simp only [Int.toNat_natCast] at HB HG
   obtain ⟨b,o,rfl,hb,hc⟩:=hA (by omega)
   obtain ⟨A1,m1,c1,hcr,hI1⟩:=hc tn (by omega)
   have hm1:m1≤1099511627776:=by have h1:=HROW.out tn;have h2:=hI1.1;omega
   obtain ⟨hz,hI⟩:=hI1
   have HZ:=Lib.hid hz
   have k0:(0:Int)≤(k:Int):=by omega
   have k1:(k:Int)<(m:Int):=by omega
   clear hc hz
   generalize fs[tn]?.getD []=f at *
   go_wp2_with fail
   go_loop [22] (fun i=>∃j:Nat,j≤m1∧i = .int .i64 j∧∀q,q<j→((decW (f[q]?.getD 0)).2==0)=true) (fun i=>m1 - (intOf i).toNat)
   case atStart=>exact ⟨0,Nat.zero_le _,rfl,by intro j hj;omega⟩
   case round =>
    obtain ⟨j,hj,rfl,hal2⟩:=hrel
    have HAL2:=Lib.hid hal2
    clear hal2
    by_cases hjl:j<m1
    ·obtain ⟨b1,o1,rfl,hb1,hc1⟩:=hI (by omega)
     have hcj:=hc1 j hjl
     have HB2:Hid (((decW (f[j]?.getD 0)).2==0)=false→clnR f=false):=fun h=>all_bad (by rw [HZ.out];exact hjl) h
     have HG2:Hid (((decW (f[j]?.getD 0)).2==0)=true→∀q,q<j+1→((decW (f[q]?.getD 0)).2==0)=true):=fun h=>all_succ HAL2.out h
     clear hc1
     generalize f[j]?.getD 0=x at *
     have j0:(0:Int)≤(j:Int):=by omega
     have j1:(j:Int)<(m1:Int):=by omega
     have HDW:=Lib.hid (decodeWord_any x)
     generalize decW x=dx at *
     by_cases hd:dx.2=0
     ·have hdd:(dx.2 != 0)=false:=by simp [hd]
      have HG3:=Lib.hid (HG2.out (by simp [hd]))
      clear HG2 HB2 hd
      go_wp2_with (go_at_call 143;refine (HDW.out _).mono ?_;rintro e w' ⟨rfl,rfl⟩)
      go_round
      case rel=>exact ⟨j+1,by omega,by go_num,HG3.out⟩
      case measure=>simp [intOf];omega
     ·have hdd:(dx.2 != 0)=true:=by simp [hd]
      have HB3:=Lib.hid (HB.out (HB2.out (by simp [hd])))
      clear HG2 HB2 hd
      go_wp2_with (go_at_call 143;refine (HDW.out _).mono ?_;rintro e w' ⟨rfl,rfl⟩)
      go_ret
      exact ⟨ret_bool HB3.out.symm,rfl⟩
    ·have hjn:j=m1:=by omega
     subst hjn
     have hdj:decide ((j:Int)<(j:Int))=false:=by simp
     have HG4:=Lib.hid (HG.out (all_good (by rw [HZ.out];exact HAL2.out)))
     clear HG HB
     go_wp2_with fail
     go_round
     case rel=>exact ⟨k+1,by omega,by go_num,HG4.out⟩
     case measure=>simp [intOf];omega
  ·have hkn:k=m:=by omega
   subst hkn
   have hdk:decide ((k:Int)<(k:Int))=false:=by simp
   go_wp2_with fail
   go_ret
   exact ⟨ret_bool (Eq.symm (all_good (by rw [HY.out];exact HALL.out))),rfl⟩
end Go.Proofs.YtbnfdhidgdfbeaaGreat
