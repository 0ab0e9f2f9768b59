/- The laws' own comparing of rows and of rows of rows. What laws over bytes need: the code opened, how long is too long, a number taken from the code. How long frames are. What the laws on a drawn running device need. -/
import Derived.Test.YtignkfhdkcgkgaaGreatCopy
import Derived.Test.YtignkfhdkcgkgaaGreatData
import Derived.Test.YtignkfhdkcgkgaaGreatDrwN
import Derived.Test.YtignkfhdkcgkgaaGreatDrwR
import Derived.Test.YtignkfhdkcgkgaaGreatStartS
namespace Go.Proofs.YtignkfhdkcgkgaaGreat
set_option maxRecDepth 100000
open Go.RowKit

set_option maxHeartbeats 400000 in
theorem sameInts_any (A B:Option Addr) (n m c d:Nat) (xs ys:List Int) (w:World) (hA:Ints w A n xs) (hB:Ints w B m ys) (hn:n≤1099511627776) :
  Calls Tryz.prog 13 #[.slice A n c,.slice B m d] w fun e w'=>e = .returned (.bool (decide (xs=ys)))∧Below w.heap.size w w':=by
 obtain ⟨hx,hA⟩:=hA
 obtain ⟨hy,hB⟩:=hB
 by_cases hnm:n=m
 ·subst hnm
  have HX:=Lib.hid hx
  have HY:=Lib.hid hy
  clear hx hy
  go_enter Tryz.func13,Tryz.ntmps13
  go_wp2_with fail
  go_loopw [5] (fun i wr=>∃k nq:Nat,k≤n∧i = .int .i64 k∧wr=w.drewN nq∧xs.take k=ys.take k) (fun i _=>n - (intOf i).toNat)
  case atStart=>exact ⟨0,0,Nat.zero_le _,rfl,rfl,rfl⟩
  case round =>
   obtain ⟨k,nq,hk,rfl,rfl,ht⟩:=hrel
   have HT:=Lib.hid ht
   clear ht
   by_cases hlt:k<n
   ·obtain ⟨b,o,rfl,hb,hc⟩:=hA (by omega)
    obtain ⟨b',o',rfl,hb',hc'⟩:=hB (by omega)
    have hck:=hc k hlt
    have hck':=hc' k hlt
    have hi0:(0:Int)≤(k:Int):=by omega
    have hi1:(k:Int)<(n:Int):=by omega
    clear hc hc'
    go_wp2
    go_quiet (fail)
    go_wp2
    ·have hne:xs[k]?.getD 0≠ys[k]?.getD 0:=bne_iff_ne.1 (by assumption)
     go_ret
     exact ⟨ret_bool (by
      have:xs≠ys:=by rintro rfl;exact hne rfl
      simp [this]),below_drewN (below_drewN (Below.refl _ _) _) _⟩
    ·have he:xs[k]?.getD 0=ys[k]?.getD 0:=by simpa using ‹(xs[k]?.getD 0 != ys[k]?.getD 0)=false›
     go_roundw
     case rel=>exact ⟨k+1,_,by omega,by go_num,rfl,take_succ_eq HT.out (by rw [HX.out];exact hlt) (by rw [HY.out];exact hlt) he⟩
     case measure=>simp [intOf];omega
   ·have hkn:k=n:=by omega
    subst hkn
    go_wp2
    go_ret
    exact ⟨ret_bool (by
     have:=HT.out
     rw [List.take_of_length_le (by rw [HX.out];exact Nat.le_refl _),List.take_of_length_le (by rw [HY.out];exact Nat.le_refl _)] at this
     simp [this]),below_drewN (Below.refl _ _) _⟩
 ·have hne:((n:Int)==(m:Int))=false:=by simp;omega
  have hne':((n:Int) != (m:Int))=true:=by simp;omega
  go_enter Tryz.func13,Tryz.ntmps13
  go_wp2_with fail
  go_ret
  exact ⟨ret_bool (by
   have:xs≠ys:=by rintro rfl;omega
   simp [this]),Below.refl _ _⟩

end Go.Proofs.YtignkfhdkcgkgaaGreat

namespace Go.Proofs.YtignkfhdkcgkgaaGreat
set_option maxRecDepth 100000
open Go.RowKit Go.ChangeShapes Go.WideShapes Go.ChangeAt

theorem byte_of {a:Int} (h:(Lit.int .u8 a).wf=true):0≤a∧a≤255:=by
 simp [Lit.wf,IntKind.min,IntKind.max,IntKind.signed,IntKind.bits] at h
 exact h
section
variable {H:Type} {enc:TypeId × Value→H} {W:World} {b0 base:Nat} {spare:Nat→Bool} {held:Bool}
theorem open_bytes {v:Value} {d:DataW H} {p:List MemPlace} (hv:Value.okWide Tryz.prog W .any b0 22 v) (h:DataW.Trod enc Tryz.prog W base (fun _=>true) held 22 v d p) :
  ∃(A:Option Addr) (n c:Nat) (xs:List Int),v = .slice A n c∧Bytes W W.heap.size A n xs∧n≤maxLen:=by
 obtain ⟨A,n,c,rfl⟩:=okWide_slice Tryz.underlying22 hv
 obtain ⟨fuel,hf⟩:=h
 rcases open_ints Tryz.underlying22 Tryz.underlying5 (by kernel_rfl) hf with ⟨hcs,_⟩|⟨x,l,c',zs,hcs,_,hl,hm,hz,_,hcell,hwz⟩
 ·simp [Value.cells] at hcs
  obtain ⟨rfl,rfl,rfl⟩:=hcs
  exact ⟨none,0,0,[],rfl,⟨rfl,by simp,fun h=>absurd h (by omega)⟩,Nat.zero_le _⟩
 ·simp [Value.cells] at hcs
  obtain ⟨rfl,rfl,rfl⟩:=hcs
  have hz':zs.length=c:=by simpa using hz
  refine ⟨_,_,_,zs.take n,rfl,⟨by simp;omega,fun j=>?_,fun hn=>?_⟩,Nat.le_trans hl hm⟩
  ·rw [List.getElem?_take]
   split
   ·rcases Nat.lt_or_ge j zs.length with h|h
    ·rw [List.getElem?_eq_getElem h]
     exact byte_of (hwz _ (List.getElem_mem h))
    ·rw [List.getElem?_eq_none h];simp
   ·simp
  ·have h0:=hcell 0 (by omega)
   rw [add_lit0] at h0
   obtain ⟨b,o,s⟩:=x
   have hs:s=none:=World.cell?_spot h0
   subst hs
   refine ⟨b,o,rfl,cell_lt h0,fun j hj=>?_⟩
   have:=hcell j (by omega)
   rw [Addr.add_lit] at this
   rw [this,List.getElem?_take,if_pos hj]
   rfl
end

theorem big_any (A:Option Addr) (n c:Nat) (w:World) :
  Calls Tryz.prog 7 #[.slice A n c] w fun e w'=>e = .returned (.bool (decide ((n:Int)>1048576)))∧w=w':=by
 go_enter Tryz.func7,Tryz.ntmps7
 go_wp2_with fail
 go_ret
 exact ⟨rfl,rfl⟩
end Go.Proofs.YtignkfhdkcgkgaaGreat

namespace Go.Proofs.YtignkfhdkcgkgaaGreat
set_option maxRecDepth 100000
open Go.RowKit

theorem size2_le_of {xss:List (List Int)} {M:Nat} (h:∀j,j<xss.length→(xss[j]?.getD []).length≤M):size2 xss≤xss.length * (M+1)∧sizeTo xss xss.length≤xss.length * M:=by
 have key:∀k,k≤xss.length→sizeTo xss k≤k * M:=by
  intro k hk
  induction k with
  | zero=>exact Nat.zero_le _
  | succ k ih =>
   have hl:=h k (by omega)
   rw [sizeTo,Nat.succ_mul]
   have:=ih (by omega)
   omega
 have:=key xss.length (Nat.le_refl _)
 refine ⟨?_,this⟩
 unfold size2
 rw [Nat.mul_succ]
 omega
theorem rows_le {fs:List (List Int)} (h:∀j,j<fs.length→(fs[j]?.getD []).length≤11) (hn:fs.length≤36):size2 fs≤432:=by
 have h1:=(size2_le_of h).1
 have h3:fs.length * (11+1)≤36 * 12:=Nat.mul_le_mul_right _ hn
 omega
theorem frame_len {d:Dev} {fs:List (List Int)} (hf:framesOk d fs=true) (j:Nat):(fs[j]?.getD []).length≤11:=by
 rcases Nat.lt_or_ge j fs.length with hj|hj
 ·have h1:=(frames_in hf hj).2
  have h2:=fwI_bd (framesOk_iff hf).1
  omega
 ·rw [List.getElem?_eq_none hj];simp

end Go.Proofs.YtignkfhdkcgkgaaGreat

namespace Go.Proofs.YtignkfhdkcgkgaaGreat
set_option maxRecDepth 100000
open Go.RowKit

end Go.Proofs.YtignkfhdkcgkgaaGreat
