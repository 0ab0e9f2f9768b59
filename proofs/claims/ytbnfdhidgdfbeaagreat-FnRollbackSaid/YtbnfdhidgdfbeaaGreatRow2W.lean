/- The reference's draws: a cursor over bytes; what a draw answers lies in its range. How the laws' arguments read: structs of integers, slices of integers, bytes, slices of slices. What laws over bytes need: the code opened, how long is too long, a number taken from the code. Slices of slices of integers: reading, owning, copying, comparing, marking. The laws' helpers on slices of slices of integers. -/
import Derived.ChangeOld
import Derived.Deep.Matrix
import Derived.Lib.SmallJoins
import Derived.OpenShut
import Derived.ProofKit
import Derived.ShutString
import Derived.Test.YtbnfdhidgdfbeaaGreatHar
import Derived.Test.YtbnfdhidgdfbeaaGreatPads
namespace Go.Proofs.YtbnfdhidgdfbeaaGreat
set_option maxRecDepth 100000
open Go.RowKit

/-- The slice (A, n) reads as the bytes bs, and lies below block B. -/
def Bytes (w:World) (B:Nat) (A:Option Addr) (n:Nat) (bs:List Int):Prop :=
 bs.length=n∧(∀j:Nat,0≤bs[j]?.getD 0∧bs[j]?.getD 0≤255)∧(0<n→∃b o,A=some ⟨b,o,none⟩∧b<B∧∀j,j<n→w.cell? ⟨b,o+j,none⟩=some (.int .u8 (bs[j]?.getD 0)))
theorem Bytes.keep {w w':World} {B:Nat} {A:Option Addr} {n:Nat} {bs:List Int} (h:Bytes w B A n bs) (hk:∀k,k<B→w'.heap[k]?=w.heap[k]?):Bytes w' B A n bs:=by
 refine ⟨h.1,h.2.1,fun hn=>?_⟩
 obtain ⟨b,o,e,hlt,hc⟩:=h.2.2 hn
 exact ⟨b,o,e,hlt,fun j hj=>(World.cell?_of_block (a:=⟨b,o+j,none⟩) (hk b hlt)).trans (hc j hj)⟩
theorem Bytes.below {w w':World} {B:Nat} {A:Option Addr} {n:Nat} {bs:List Int} (h:Bytes w B A n bs) (hb:Below B w w'):Bytes w' B A n bs:=h.keep hb.block
theorem Bytes.more {w:World} {B B':Nat} {A:Option Addr} {n:Nat} {bs:List Int} (h:Bytes w B A n bs) (hB:B≤B'):Bytes w B' A n bs:=by
 refine ⟨h.1,h.2.1,fun hn=>?_⟩
 obtain ⟨b,o,e,hlt,hc⟩:=h.2.2 hn
 exact ⟨b,o,e,Nat.lt_of_lt_of_le hlt hB,hc⟩

def Cur (w:World) (g B:Nat) (A:Option Addr) (n c:Nat) (bs:List Int):Prop :=
 ∃(i:Nat) (h:Int),i≤n∧B≤g∧w.heap[g]?=some (.cells #[.slice A n c,.int .i64 i,.int .i64 h] 124 (0,0))∧Bytes w B A n bs

theorem heap_lt {w:World} {g:Nat} {o:Obj} (h:w.heap[g]?=some o):g<w.heap.size:=by
 rcases Nat.lt_or_ge g w.heap.size with hlt|hge
 ·exact hlt
 ·rw [Array.getElem?_eq_none hge] at h;cases h
theorem Cur.lt {w:World} {g B:Nat} {A:Option Addr} {n c:Nat} {bs:List Int} (h:Cur w g B A n c bs):g<w.heap.size:=by
 obtain ⟨i,x,_,_,hh,_⟩:=h
 exact heap_lt hh
theorem Cur.below {w w':World} {g B:Nat} {A:Option Addr} {n c:Nat} {bs:List Int} (h:Cur w g B A n c bs) (hb:Below w.heap.size w w'):Cur w' g B A n c bs:=by
 have hl:=h.lt
 obtain ⟨i,x,hi,hB,hh,hbs⟩:=h
 exact ⟨i,x,hi,hB,(hb.block g hl).trans hh,hbs.below (hb.mono (Nat.le_trans hB (Nat.le_of_lt hl)))⟩
theorem Cur.keep {w w':World} {g B:Nat} {A:Option Addr} {n c:Nat} {bs:List Int} (h:Cur w g B A n c bs) (hg:w'.heap[g]?=w.heap[g]?) (hk:∀k,k<B→w'.heap[k]?=w.heap[k]?):Cur w' g B A n c bs:=by
 obtain ⟨i,x,hi,hB,hh,hbs⟩:=h
 exact ⟨i,x,hi,hB,hg.trans hh,hbs.keep hk⟩
theorem Cur.pushed {w w':World} {g B:Nat} {A:Option Addr} {n c:Nat} {bs:List Int} {o:Obj} {g':Nat} (h:Cur w g B A n c bs) (gr:(w.alloc o).grownBy w' (some g')) (hne:g'≠g) (hr:B≤g'):Cur w' g B A n c bs:=by
 have hl:=h.lt
 refine h.keep ((gr.block g (by simp;omega) (by simpa using fun e=>hne e.symm)).trans (Below.heap_alloc _ _ _ hl)) fun k hk=>?_
 obtain ⟨i,x,hi,hB,_⟩:=h
 exact (gr.block k (by simp;omega) (by simp;omega)).trans (Below.heap_alloc _ _ _ (by omega))
theorem Own.other {w w':World} {base g' m c':Nat} {xs:List Int} {r:Nat} (k:Own base w (some ⟨g',0,none⟩) m c' xs) (h:w.grownBy w' (some r)) (hne:g'≠r):Own base w' (some ⟨g',0,none⟩) m c' xs :=
 ownsRow_block k fun a ha=>h.block _ (k.lt a ha).2 (by injection ha with ha;subst ha;simpa using hne)

theorem bv_and255 (x:BitVec 64):(x &&& 255#64).toNat≤255:=by
 rw [BitVec.toNat_and]
 exact Nat.le_trans Nat.and_le_right (by decide)
theorem and255_bd (a:Int):0≤bits .and .i64 a 255∧bits .and .i64 a 255≤255:=by
 have h:bits .and .i64 a 255=IntKind.i64.wrap ((BitVec.ofInt 64 a &&& 255#64).toNat:Int):=rfl
 have hb:=bv_and255 (BitVec.ofInt 64 a)
 rw [h,IntWalk.i64_in _ (by omega)]
 omega

set_option maxHeartbeats 1000000 in
theorem l01Byte_any (g B:Nat) (A:Option Addr) (n c:Nat) (bs:List Int) (w:World) (h:Cur w g B A n c bs) (hn:n≤1099511627776) :
  Calls Tryz.prog 157 #[.pointer (some ⟨g,0,none⟩)] w fun e w'=>∃x:Int,e = .returned (.int .i64 x)∧0≤x∧x≤255∧Cur w' g B A n c bs∧w.grownBy w' (some g):=by
 obtain ⟨i,x,hi,hBg,hh,hlen,hbd,hA⟩:=h
 have c0:w.cell? ⟨g,0,none⟩=some (.slice A n c):=by simp [World.cell?,hh]
 have c1:w.cell? ⟨g,1,none⟩=some (.int .i64 i):=by simp [World.cell?,hh]
 have c2:w.cell? ⟨g,2,none⟩=some (.int .i64 x):=by simp [World.cell?,hh]
 have f1:w.frozen? ⟨g,1,none⟩=false:=by simp [World.frozen?,hh]
 have f2:w.frozen? ⟨g,2,none⟩=false:=by simp [World.frozen?,hh]
 have HH:=Lib.hid hh
 have HL:=Lib.hid hlen
 have HB:=Lib.hid hbd
 clear hh hlen hbd
 by_cases hin:i<n
 ·obtain ⟨b,o,rfl,hbg,hc⟩:=hA (by omega)
  have hci:=hc i hin
  have hne:b≠g:=by omega
  have HC:=Lib.hid hc
  clear hc
  have hi0:(0:Int)≤(i:Int):=by omega
  have hi1:(i:Int)<(n:Int):=by omega
  go_enter Tryz.func157,Tryz.ntmps157
  go_wp2_with fail
  generalize wrap64 (wrap64 (x * 6364136223846793005)+1442695040888963407)=x' at *
  go_quiet (fail)
  have hy:=and255_bd (bits .xor .i64 (x' / 8589934592) (x' / 35184372088832))
  generalize bits .and .i64 (bits .xor .i64 (x' / 8589934592) (x' / 35184372088832)) 255=y at *
  go_wp2_with fail
  go_quiet (fail)
  go_wp2_with fail
  go_quiet (fail)
  have hz:=and255_bd (y+bs[i]?.getD 0)
  go_wp2_with fail
  go_ret
  refine ⟨_,rfl,?_,?_,⟨i+1,x',by omega,hBg,?_,HL.out,HB.out,fun _=>⟨b,o,rfl,hbg,fun j hj=>?_⟩⟩,?_⟩
  ·exact (and255_bd _).1
  ·exact (and255_bd _).2
  ·exact (heap_set (w:=(w.setCell ⟨g,2,none⟩ (.int .i64 x')).drewN _) (heap_set HH.out 2 (.int .i64 x')) 1 _).trans (by simp)
  ·exact ((World.cell?_of_block (a:=⟨b,o+j,none⟩) ((heap_set_ne (w:=(w.setCell ⟨g,2,none⟩ (.int .i64 x')).drewN _) (p:=⟨g,1,none⟩) hne _).trans (heap_set_ne (p:=⟨g,2,none⟩) hne _)))).trans (HC.out j hj)
  ·exact grownBy_store (grownBy_drewN (grownBy_store (grownBy_refl _ _) _ _) _) _ _
 ·have hle:decide ((i:Int)<(n:Int))=false:=by simp;omega
  go_enter Tryz.func157,Tryz.ntmps157
  go_wp2_with fail
  generalize wrap64 (wrap64 (x * 6364136223846793005)+1442695040888963407)=x' at *
  go_quiet (fail)
  have hy:=and255_bd (bits .xor .i64 (x' / 8589934592) (x' / 35184372088832))
  generalize bits .and .i64 (bits .xor .i64 (x' / 8589934592) (x' / 35184372088832)) 255=y at *
  go_wp2_with fail
  go_quiet (fail)
  go_wp2_with fail
  go_ret
  refine ⟨_,rfl,?_,?_,⟨i,x',by omega,hBg,?_,HL.out,HB.out,fun _=>?_⟩,?_⟩
  ·exact hy.1
  ·exact hy.2
  ·exact (heap_set HH.out 2 (.int .i64 x')).trans (by simp)
  ·obtain ⟨b,o,rfl,hbg,hc⟩:=hA (by omega)
   exact ⟨b,o,rfl,hbg,fun j hj=>(World.cell?_of_block (a:=⟨b,o+j,none⟩) (heap_set_ne (p:=⟨g,2,none⟩) (by simp only;omega) _)).trans (hc j hj)⟩
  ·exact grownBy_drewN (grownBy_drewN (grownBy_store (grownBy_refl _ _) _ _) _) _

theorem tmod_bd {x n:Int} (_hx:0≤x) (hn:0<n):0≤x % n∧x % n<n:=⟨Int.emod_nonneg _ (by omega),Int.emod_lt_of_pos _ hn⟩

set_option maxHeartbeats 1000000 in
theorem l01Below_any (g B:Nat) (A:Option Addr) (n c:Nat) (bs:List Int) (m:Int) (w:World) (h:Cur w g B A n c bs) (hn:n≤1099511627776) (hm:0<m) (hm':m≤1099511627776) :
  Calls Tryz.prog 108 #[.pointer (some ⟨g,0,none⟩),.int .i64 m] w fun e w'=>∃x:Int,e = .returned (.int .i64 x)∧0≤x∧x<m∧Cur w' g B A n c bs∧w.grownBy w' (some g):=by
 have h0:decide (m≤0)=false:=by simp;omega
 have HC:=Lib.hid h
 clear h
 by_cases h256:m≤256
 ·have h1:decide (m≤256)=true:=by simpa using h256
  go_enter Tryz.func108,Tryz.ntmps108
  go_wp2_with fail
  refine (l01Byte_any g B A n c bs _ HC.out hn).mono ?_
  rintro e w1 ⟨x,rfl,hx0,hx1,k1,g1⟩
  have K1:=Lib.hid k1
  have G1:=Lib.hid g1
  clear k1 g1
  go_wp2_with fail
  go_ret
  exact ⟨_,rfl,(tmod_bd hx0 hm).1,(tmod_bd hx0 hm).2,K1.out,G1.out⟩
 ·have h1:decide (m≤256)=false:=by simpa using h256
  go_enter Tryz.func108,Tryz.ntmps108
  go_wp2_with fail
  refine (l01Byte_any g B A n c bs _ HC.out hn).mono ?_
  rintro e w1 ⟨x,rfl,hx0,hx1,k1,g1⟩
  have K1:=Lib.hid k1
  have G1:=Lib.hid g1
  clear k1 g1
  go_wp2_with fail
  refine (l01Byte_any g B A n c bs _ K1.out hn).mono ?_
  rintro e w2 ⟨y,rfl,hy0,hy1,k2,g2⟩
  have K2:=Lib.hid k2
  have G2:=Lib.hid (grownBy_trans G1.out g2)
  clear k2 g2
  go_wp2_with fail
  refine (l01Byte_any g B A n c bs _ K2.out hn).mono ?_
  rintro e w3 ⟨z,rfl,hz0,hz1,k3,g3⟩
  have K3:=Lib.hid k3
  have G3:=Lib.hid (grownBy_trans G2.out g3)
  clear k3 g3
  go_wp2_with fail
  refine (l01Byte_any g B A n c bs _ K3.out hn).mono ?_
  rintro e w4 ⟨v,rfl,hv0,hv1,k4,g4⟩
  have K4:=Lib.hid k4
  have G4:=Lib.hid (grownBy_trans G3.out g4)
  clear k4 g4
  have hs:0≤x * 16777216+y * 65536+z * 256+v:=by omega
  go_wp2_with fail
  go_ret
  exact ⟨_,rfl,(tmod_bd hs hm).1,(tmod_bd hs hm).2,K4.out,G4.out⟩

set_option maxHeartbeats 1000000 in
theorem l01Once_any (g B:Nat) (A:Option Addr) (n c:Nat) (bs:List Int) (m:Int) (w:World) (h:Cur w g B A n c bs) (hn:n≤1099511627776) (hm:0<m) (hm':m≤1099511627776) :
  Calls Tryz.prog 109 #[.pointer (some ⟨g,0,none⟩),.int .i64 m] w fun e w'=>∃x:Bool,e = .returned (.bool x)∧Cur w' g B A n c bs∧w.grownBy w' (some g):=by
 have HC:=Lib.hid h
 clear h
 go_enter Tryz.func109,Tryz.ntmps109
 go_wp2_with fail
 refine (l01Below_any g B A n c bs m _ HC.out hn hm hm').mono ?_
 rintro e w1 ⟨x,rfl,hx0,hx1,k1,g1⟩
 have K1:=Lib.hid k1
 have G1:=Lib.hid g1
 clear k1 g1
 go_wp2_with fail
 go_ret
 exact ⟨_,rfl,K1.out,G1.out⟩

/-! ### a new cursor -/
set_option maxRecDepth 100000 in
set_option maxHeartbeats 1000000 in
theorem l01New_any (A:Option Addr) (n c:Nat) (bs:List Int) (w:World) (h:Bytes w w.heap.size A n bs) (hn:n≤1099511627776) :
  Calls Tryz.prog 41 #[.slice A n c] w fun e w'=>∃g:Nat,e = .returned (.pointer (some ⟨g,0,none⟩))∧w.heap.size≤g∧Cur w' g w.heap.size A n c bs∧Below w.heap.size w w':=by
 have HB:=Lib.hid h
 obtain ⟨hlen,hbd,hA⟩:=h
 have HX:=Lib.hid hlen
 have HD:=Lib.hid hbd
 clear hlen hbd
 go_enter Tryz.func41,Tryz.ntmps41
 go_wp2_with fail
 go_loopw [3,4] (fun v i wr=>∃(k nq:Nat) (x:Int),k≤n∧i = .int .i64 k∧v = .int .i64 x∧wr=w.drewN nq) (fun _ i _=>n - (intOf i).toNat)
 case atStart=>exact ⟨0,0,_,Nat.zero_le _,rfl,rfl,rfl⟩
 case round =>
  obtain ⟨k,nq,x,hk,rfl,rfl,rfl⟩:=hrel
  by_cases hlt:k<n∧k<4000
  ·obtain ⟨hlt,h4⟩:=hlt
   obtain ⟨b,o,rfl,hbg,hc⟩:=hA (by omega)
   have hck:=hc k hlt
   clear hc
   have hi0:(0:Int)≤(k:Int):=by omega
   have hi1:(k:Int)<(n:Int):=by omega
   go_wp2_with fail
   go_roundw
   case rel=>exact ⟨k+1,_,_,by omega,by go_num,rfl,rfl⟩
   case measure=>simp [intOf];omega
  ·by_cases hlt':k<n
   ·have hd:decide ((k:Int)<4000)=false:=by simp;omega
    go_wp2_with fail
    go_ret
    exact ⟨_,rfl,Nat.le_refl _,⟨0,x,Nat.zero_le _,Nat.le_refl _,heap_new _ _,HB.out.keep fun j hj=>Below.heap_alloc (w.drewN nq) _ _ hj⟩,below_new (below_drewN (Below.refl _ _) _) _⟩
   ·have hd:decide ((k:Int)<(n:Int))=false:=by simp;omega
    go_wp2_with fail
    go_ret
    exact ⟨_,rfl,Nat.le_refl _,⟨0,x,Nat.zero_le _,Nat.le_refl _,heap_new _ _,HB.out.keep fun j hj=>Below.heap_alloc (w.drewN nq) _ _ hj⟩,below_new (below_drewN (Below.refl _ _) _) _⟩
end Go.Proofs.YtbnfdhidgdfbeaaGreat

namespace Go.Proofs.YtbnfdhidgdfbeaaGreat
set_option maxRecDepth 100000
open Go.RowKit Go.ChangeShapes Go.WideShapes Go.ChangeAt

theorem Tryz.own:ownKnob Tryz.prog.godebug=none:=by kernel_rfl
theorem Tryz.laidOut:laidOutB Tryz.prog=true:=by kernel_rfl

def Wf (a:Int):Prop:=-9223372036854775808≤a∧a≤9223372036854775807
def Dev.wf (d:Dev):Prop:=Wf d.W∧Wf d.H∧Wf d.T∧Wf d.R
def Reg.wf (d:Reg):Prop:=Wf d.X0∧Wf d.Y0∧Wf d.X1∧Wf d.Y1

section
variable {H:Type} {enc:TypeId × Value→H} {W:World} {b0 base:Nat} {spare:Nat→Bool} {held:Bool}
theorem cell_lt {w:World} {a:Addr} {v:Value} (h:w.cell? a=some v):a.block<w.heap.size:=by
 rcases Nat.lt_or_ge a.block w.heap.size with hlt|hge
 ·exact hlt
 ·unfold World.cell? at h
  rw [Array.getElem?_eq_none hge] at h
  cases h
theorem add_lit0 (a:Addr):a.add 0=a:=by simp [Addr.add]

end
end Go.Proofs.YtbnfdhidgdfbeaaGreat

namespace Go.Proofs.YtbnfdhidgdfbeaaGreat
set_option maxRecDepth 100000
open Go.RowKit Go.ChangeShapes Go.WideShapes Go.ChangeAt

theorem byte_of {a:Int} (h:(Lit.int .u8 a).wf=true):0≤a∧a≤255:=by
 simp [Lit.wf,IntKind.min,IntKind.max,IntKind.signed,IntKind.bits] at h
 exact h
section
variable {H:Type} {enc:TypeId × Value→H} {W:World} {b0 base:Nat} {spare:Nat→Bool} {held:Bool}
theorem open_bytes {v:Value} {d:DataW H} {p:List MemPlace} (hv:Value.okWide Tryz.prog W .any b0 22 v) (h:DataW.Trod enc Tryz.prog W base (fun _=>true) held 22 v d p) :
  ∃(A:Option Addr) (n c:Nat) (xs:List Int),v = .slice A n c∧Bytes W W.heap.size A n xs∧n≤maxLen:=by
 obtain ⟨A,n,c,rfl⟩:=okWide_slice Tryz.underlying22 hv
 obtain ⟨fuel,hf⟩:=h
 rcases open_ints Tryz.underlying22 Tryz.underlying5 (by kernel_rfl) hf with ⟨hcs,_⟩|⟨x,l,c',zs,hcs,_,hl,hm,hz,_,hcell,hwz⟩
 ·simp [Value.cells] at hcs
  obtain ⟨rfl,rfl,rfl⟩:=hcs
  exact ⟨none,0,0,[],rfl,⟨rfl,by simp,fun h=>absurd h (by omega)⟩,Nat.zero_le _⟩
 ·simp [Value.cells] at hcs
  obtain ⟨rfl,rfl,rfl⟩:=hcs
  have hz':zs.length=c:=by simpa using hz
  refine ⟨_,_,_,zs.take n,rfl,⟨by simp;omega,fun j=>?_,fun hn=>?_⟩,Nat.le_trans hl hm⟩
  ·rw [List.getElem?_take]
   split
   ·rcases Nat.lt_or_ge j zs.length with h|h
    ·rw [List.getElem?_eq_getElem h]
     exact byte_of (hwz _ (List.getElem_mem h))
    ·rw [List.getElem?_eq_none h];simp
   ·simp
  ·have h0:=hcell 0 (by omega)
   rw [add_lit0] at h0
   obtain ⟨b,o,s⟩:=x
   have hs:s=none:=World.cell?_spot h0
   subst hs
   refine ⟨b,o,rfl,cell_lt h0,fun j hj=>?_⟩
   have:=hcell j (by omega)
   rw [Addr.add_lit] at this
   rw [this,List.getElem?_take,if_pos hj]
   rfl
end

theorem big_any (A:Option Addr) (n c:Nat) (w:World) :
  Calls Tryz.prog 9 #[.slice A n c] w fun e w'=>e = .returned (.bool (decide ((n:Int)>1048576)))∧w=w':=by
 go_enter Tryz.func9,Tryz.ntmps9
 go_wp2_with fail
 go_ret
 exact ⟨rfl,rfl⟩
end Go.Proofs.YtbnfdhidgdfbeaaGreat

namespace Go.Proofs.YtbnfdhidgdfbeaaGreat
set_option maxRecDepth 100000
open Go.RowKit

/-- A slice's value by its three parts. -/
abbrev SV:=Option Addr × Nat × Nat
def SV.val (v:SV):Value := .slice v.1 v.2.1 v.2.2

def Rows2 (w:World) (A:Option Addr) (n:Nat) (xss:List (List Int)):Prop :=
 xss.length=n∧(0<n→∃b o,A=some ⟨b,o,none⟩∧b<w.heap.size∧∀j,j<n→∃A' m c,w.cell? ⟨b,o+j,none⟩=some (.slice A' m c)∧Ints w A' m (xss[j]?.getD []))
theorem Rows2.below {w w':World} {A:Option Addr} {n:Nat} {xss:List (List Int)} (h:Rows2 w A n xss) (hb:Below w.heap.size w w'):Rows2 w' A n xss:=by
 refine ⟨h.1,fun hn=>?_⟩
 obtain ⟨b,o,e,hlt,hc⟩:=h.2 hn
 refine ⟨b,o,e,below_lt hb hlt,fun j hj=>?_⟩
 obtain ⟨A',m,c,h1,h2⟩:=hc j hj
 exact ⟨A',m,c,(hb.cell (p:=⟨b,o+j,none⟩) hlt).trans h1,h2.below hb⟩

/-- The rows within a slice of slices: each the call's own, no two in one block. -/
def Inner (lo hi:Nat) (w:World) (vs:List SV) (xss:List (List Int)):Prop :=
 vs.length=xss.length∧(∀(j:Nat) (v:SV),vs[j]?=some v→Own lo w v.1 v.2.1 v.2.2 (xss[j]?.getD [])∧∀a:Addr,v.1=some a→a.block<hi) ∧
 ∀(i j:Nat) (u v:SV),i<j→vs[i]?=some u→vs[j]?=some v→∀a b:Addr,u.1=some a→v.1=some b→a.block≠b.block
theorem Inner.nil {lo hi:Nat} {w:World}:Inner lo hi w [] []:=⟨rfl,fun j v h=>by simp at h,fun i j u v _ h=>by simp at h⟩
theorem Inner.keep {lo hi:Nat} {w w':World} {vs:List SV} {xss:List (List Int)} (h:Inner lo hi w vs xss) (hk:∀k e cs f,k<w.heap.size→lo≤k→k<hi→w.heap[k]?=some (.cells cs e f)→e=3→w'.heap[k]?=w.heap[k]?):Inner lo hi w' vs xss:=by
 refine ⟨h.1,fun j v hv=>?_,h.2.2⟩
 obtain ⟨h1,h2⟩:=h.2.1 j v hv
 refine ⟨ownsRow_block h1 fun a ha=>?_,h2⟩
 have hl:=h1.lt a ha
 rcases h1.2 with ⟨hn,_⟩|⟨g,cap,cur,hv',hb,hh,_⟩
 ·injection hn with hn _ _
  rw [hn] at ha
  cases ha
 ·injection hv' with hA _ _
  rw [hA] at ha
  injection ha with ha
  subst ha
  exact hk g _ _ _ hl.2 hb (h2 _ hA) hh rfl
theorem Inner.below {lo hi:Nat} {w w':World} {vs:List SV} {xss:List (List Int)} (h:Inner lo hi w vs xss) (hb:Below w.heap.size w w'):Inner lo hi w' vs xss :=
 h.keep fun k _ _ _ hk _ _ _ _=>hb.block k hk
theorem Inner.chg {lo hi lo' hi':Nat} {w w':World} {vs:List SV} {xss:List (List Int)} (h:Inner lo hi w vs xss) (hg:Chg lo' hi' w w') (ha:hi≤lo'∨hi'≤lo):Inner lo hi w' vs xss :=
 h.keep fun k _ _ _ hk h1 h2 _ _=>hg.block k hk (by omega)
theorem Inner.put {lo hi:Nat} {w:World} {vs:List SV} {xss:List (List Int)} (h:Inner lo hi w vs xss) {g:Nat} {cs:Array Value} {f:Nat × Nat} (hg:w.heap[g]?=some (.cells cs 27 f)) (j:Nat) (v:Value):Inner lo hi (w.setCell ⟨g,j,none⟩ v) vs xss :=
 h.keep fun k e cs' f' _ _ _ hk he=>Below.heap_setCell _ _ _ _ (by
  rintro rfl
  rw [hg] at hk
  injection hk with hk
  injection hk with _ ht
  rw [he] at ht
  exact absurd ht (by decide))
theorem Inner.widen {lo hi hi':Nat} {w:World} {vs:List SV} {xss:List (List Int)} (h:Inner lo hi w vs xss) (hh:hi≤hi'):Inner lo hi' w vs xss :=
 ⟨h.1,fun j v hv=>⟨(h.2.1 j v hv).1,fun a ha=>Nat.lt_of_lt_of_le ((h.2.1 j v hv).2 a ha) hh⟩,h.2.2⟩
theorem Inner.lower {lo lo' hi:Nat} {w:World} {vs:List SV} {xss:List (List Int)} (h:Inner lo hi w vs xss) (hh:lo'≤lo):Inner lo' hi w vs xss :=
 ⟨h.1,fun j v hv=>⟨(h.2.1 j v hv).1.more hh,(h.2.1 j v hv).2⟩,h.2.2⟩
theorem Inner.snoc {lo hi base:Nat} {w:World} {vs:List SV} {xss:List (List Int)} (h:Inner lo hi w vs xss) {A:Option Addr} {m c:Nat} {xs:List Int} (o:Own base w A m c xs) (hb:hi≤base) (hlo:lo≤base) :
  Inner lo (max hi w.heap.size) w (vs++[(A,m,c)]) (xss++[xs]):=by
 have hl:=h.1
 refine ⟨by simp [hl],fun j v hv=>?_,fun i j u v hij hu hv a b ha hb'=>?_⟩
 ·rw [List.getElem?_append] at hv
  split at hv
  ·rename_i hj
   obtain ⟨h1,h2⟩:=h.2.1 j v hv
   refine ⟨?_,fun a ha=>by have:=h2 a ha;omega⟩
   rw [List.getElem?_append_left (by omega)]
   exact h1
  ·rename_i hj
   have hj':j - vs.length=0:=by
    rcases Nat.eq_zero_or_pos (j - vs.length) with h0|h0
    ·exact h0
    ·simp [show j - vs.length≠0 by omega] at hv
   rw [hj'] at hv
   simp at hv
   subst hv
   refine ⟨?_,fun a ha=>by have:=(o.lt a ha).2;omega⟩
   rw [List.getElem?_append_right (by omega),show j - xss.length=0 by omega]
   exact o.more hlo
 ·rw [List.getElem?_append] at hu hv
  split at hv
  ·rename_i hj
   rw [if_pos (by omega)] at hu
   exact h.2.2 i j u v hij hu hv a b ha hb'
  ·rename_i hj
   have hj':j - vs.length=0:=by
    rcases Nat.eq_zero_or_pos (j - vs.length) with h0|h0
    ·exact h0
    ·simp [show j - vs.length≠0 by omega] at hv
   rw [hj'] at hv
   simp at hv
   subst hv
   rw [if_pos (by omega)] at hu
   have h1:=(h.2.1 i u hu).2 a ha
   have h2:=(o.lt b hb').1
   omega

def Own2 (lo hi:Nat) (w:World) (A:Option Addr) (n c:Nat) (xss:List (List Int)):Prop :=
 ∃vs:List SV,w.ownsRow lo 27 1 (.slice A n c) n (vs.map SV.val)∧(∀a:Addr,A=some a→a.block<hi)∧Inner lo hi w vs xss
theorem Own2.nil {lo hi:Nat} {w:World}:Own2 lo hi w none 0 0 []:=⟨[],⟨rfl,.inl ⟨rfl,rfl⟩⟩,by simp,Inner.nil⟩
theorem ownsRow_lt {base:Nat} {w:World} {A:Option Addr} {e:TypeId} {n c:Nat} {vs:List Value} (h:w.ownsRow base e 1 (.slice A n c) n vs):∀a,A=some a→base≤a.block∧a.block<w.heap.size:=by
 rintro a rfl
 rcases h.2 with ⟨hv,_⟩|⟨g,cap,cur,hv,hb,hh,_⟩
 ·cases hv
 ·injection hv with hA
  injection hA with hA
  subst hA
  exact ⟨hb,heap_lt0 hh⟩
theorem Own2.len {lo hi:Nat} {w:World} {A:Option Addr} {n c:Nat} {xss:List (List Int)} (h:Own2 lo hi w A n c xss):xss.length=n:=by
 obtain ⟨vs,h1,_,h2⟩:=h
 have:=h1.1
 rw [←h2.1]
 simpa using this
theorem Own2.below {lo hi:Nat} {w w':World} {A:Option Addr} {n c:Nat} {xss:List (List Int)} (h:Own2 lo hi w A n c xss) (hb:Below w.heap.size w w'):Own2 lo hi w' A n c xss:=by
 obtain ⟨vs,h1,h2,h3⟩:=h
 exact ⟨vs,ownsRow_block h1 fun a ha=>hb.block _ (ownsRow_lt h1 a ha).2,h2,h3.below hb⟩
theorem Own2.chg {lo hi lo' hi':Nat} {w w':World} {A:Option Addr} {n c:Nat} {xss:List (List Int)} (h:Own2 lo hi w A n c xss) (hg:Chg lo' hi' w w') (ha:hi≤lo'∨hi'≤lo):Own2 lo hi w' A n c xss:=by
 obtain ⟨vs,h1,h2,h3⟩:=h
 exact ⟨vs,ownsRow_block h1 fun a e=>hg.block _ (ownsRow_lt h1 a e).2 (by have:=ownsRow_lt h1 a e;have:=h2 a e;omega),h2,h3.chg hg ha⟩
theorem Own2.drewd {lo hi:Nat} {w:World} {A:Option Addr} {n c:Nat} {xss:List (List Int)} (h:Own2 lo hi w A n c xss):Own2 lo hi w.drew A n c xss:=h
theorem Own2.rd {lo hi:Nat} {w:World} {A:Option Addr} {n c:Nat} {xss:List (List Int)} (h:Own2 lo hi w A n c xss):Rows2 w A n xss:=by
 refine ⟨h.len,fun hn=>?_⟩
 have hlen:=h.len
 obtain ⟨vs,h1,h2,h3⟩:=h
 rcases h1.2 with ⟨_,h0⟩|⟨g,cap,cur,hv,hb,hh,hnc,hcap,hsz,ht⟩
 ·omega
 ·injection hv with hA
  subst hA
  refine ⟨g,0,rfl,heap_lt0 hh,fun j hj=>?_⟩
  have hvl:vs.length=n:=by rw [h3.1];exact hlen
  have hvj:vs[j]?=some (vs[j]'(by omega)):=List.getElem?_eq_getElem (by omega)
  refine ⟨(vs[j]'(by omega)).1,(vs[j]'(by omega)).2.1,(vs[j]'(by omega)).2.2,?_,(h3.2.1 j _ hvj).1.ints⟩
  have hx:(vs.map SV.val)[j]?=some (SV.val (vs[j]'(by omega))):=by rw [List.getElem?_map,hvj];rfl
  rw [←ht,List.getElem?_take] at hx
  simp only [Nat.mul_one] at hx
  rw [if_pos hj] at hx
  unfold World.cell?
  simp only [Nat.zero_add]
  rw [hh]
  rw [Array.getElem?_toList] at hx
  exact hx
end Go.Proofs.YtbnfdhidgdfbeaaGreat

namespace Go.Proofs.YtbnfdhidgdfbeaaGreat
set_option maxRecDepth 100000
open Go.RowKit

theorem slc_info:(Tryz.prog.info? 27).map (fun i=>(i.zero,i.size,i.bytes))=some (some (.slice none 0 0),1,24):=by kernel_rfl

/-! ### sizes -/
def sizeTo (xss:List (List Int)):Nat→Nat
 | 0=>0
 | k+1=>sizeTo xss k+(xss[k]?.getD []).length
def size2 (xss:List (List Int)):Nat:=xss.length+sizeTo xss xss.length
theorem sizeTo_mono (xss:List (List Int)) {j k:Nat} (h:j<k):sizeTo xss j+(xss[j]?.getD []).length≤sizeTo xss k:=by
 induction k with
 | zero=>omega
 | succ k ih =>
  rcases Nat.lt_or_ge j k with h1|h1
  ·have:=ih h1
   simp only [sizeTo]
   omega
  ·obtain rfl:j=k:=by omega
   exact Nat.le_refl _
theorem size2_row {xss:List (List Int)} {j:Nat} (h:j<xss.length):(xss[j]?.getD []).length≤size2 xss:=by
 have:=sizeTo_mono xss h
 unfold size2
 omega
theorem size2_bd {xss:List (List Int)} {n M:Nat} (hx:xss.length=n) (h:size2 xss≤M):n≤M∧∀j:Nat,(xss[j]?.getD []).length≤M:=by
 refine ⟨by unfold size2 at h;omega,fun j=>?_⟩
 rcases Nat.lt_or_ge j xss.length with h1|h1
 ·exact Nat.le_trans (size2_row h1) h
 ·simp [List.getElem?_eq_none h1]
/-! ### comparing -/
/-! ### copying -/
def filled (vs:List SV) (n:Nat):Array Value:=(vs.map SV.val++List.replicate (n - vs.length) (Value.slice none 0 0)).toArray
theorem filled_full {vs:List SV} {n:Nat} (h:vs.length=n):(filled vs n).toList=vs.map SV.val:=by
 simp [filled,h]
theorem filled_size {vs:List SV} {n:Nat} (h:vs.length≤n):(filled vs n).size=n:=by
 simp [filled];omega
theorem Own2.made {w:World} {lo hi g n:Nat} {vs:List SV} {xss:List (List Int)} (hh:w.heap[g]?=some (.cells (filled vs n) 27 (0,0))) (hb:lo≤g) (hg:g<hi) (hn:n≤maxLen) (hl:vs.length=n) (hi':Inner lo hi w vs xss):Own2 lo hi w (some ⟨g,0,none⟩) n n xss :=
 ⟨vs,⟨by simp [hl],.inr ⟨g,n,_,rfl,hb,hh,Nat.le_refl _,hn,by rw [filled_size (by omega)];omega,by rw [filled_full hl,List.take_of_length_le (by simp [hl])]⟩⟩,by rintro a ⟨⟩;exact hg,hi'⟩
theorem take_snoc_row {xss:List (List Int)} {k:Nat} (h:k<xss.length):xss.take (k+1)=xss.take k++[xss[k]?.getD []]:=by
 rw [List.take_succ_eq_append_getElem h,List.getElem?_eq_getElem h]
 rfl

/-! ### marking -/
theorem Own2.rowX {lo hi:Nat} {w:World} {A:Option Addr} {n c k:Nat} {yss:List (List Int)} (h:Own2 lo hi w A n c yss) (hk:k<n) :
  ∃b A1 m1 c1,A=some ⟨b,0,none⟩∧w.cell? ⟨b,k,none⟩=some (.slice A1 m1 c1)∧w.frozen? ⟨b,k,none⟩=false∧Own lo w A1 m1 c1 (yss[k]?.getD [])∧Lies A1 lo hi ∧
   (∀w' zs,w.grownBy w' (A1.map (·.block))→Own lo w' A1 m1 c1 zs→Own2 lo hi w' A n c (yss.set k zs))∧(∀a,A1=some a→a.block≠b)∧lo≤b∧b<hi∧b<w.heap.size:=by
 have hlen:=h.len
 obtain ⟨vs,h1,h2,h3⟩:=h
 have hvl:vs.length=n:=by rw [h3.1];exact hlen
 have hvk:vs[k]?=some (vs[k]'(by omega)):=List.getElem?_eq_getElem (by omega)
 generalize vs[k]'(by omega)=v at hvk
 have hr:=h1.2
 rcases hr with ⟨_,h0⟩|⟨g,cap,cur,hv,hb,hh,hnc,hcap,hsz,ht⟩
 ·omega
 ·injection hv with hA
  subst hA
  obtain ⟨hok,hhi⟩:=h3.2.1 k v hvk
  have hcur:cur[k]?=some (SV.val v):=by
   have hx:(vs.map SV.val)[k]?=some (SV.val v):=by rw [List.getElem?_map,hvk];rfl
   rw [←ht,List.getElem?_take] at hx
   simp only [Nat.mul_one] at hx
   rw [if_pos hk,Array.getElem?_toList] at hx
   exact hx
  have hne:∀a,v.1=some a→a.block≠g:=by
   rintro a ha rfl
   rcases hok.2 with ⟨hn,_⟩|⟨g',cap',cur',hv',_,hh',_⟩
   ·injection hn with hn _ _
    rw [hn] at ha
    cases ha
   ·injection hv' with hA' _ _
    rw [hA'] at ha
    injection ha with ha
    subst ha
    rw [hh] at hh'
    injection hh' with hh'
    injection hh' with _ hty
    exact absurd hty (by decide)
  refine ⟨g,v.1,v.2.1,v.2.2,rfl,by unfold World.cell?;rw [hh];exact hcur,by unfold World.frozen?;rw [hh];simp,hok,fun a ha=>⟨(hok.lt a ha).1,hhi a ha⟩,fun w' zs hg ho=>?_,hne,hb,h2 _ rfl,heap_lt0 hh⟩
  refine ⟨vs,ownsRow_block h1 fun a ha=>?_,h2,by rw [List.length_set];exact h3.1,fun j u hu=>?_,h3.2.2⟩
  ·injection ha with ha
   subst ha
   refine hg.block g (heap_lt0 hh) ?_
   cases hv1:v.1 with
   | none=>simp
   | some a=>simpa using fun e=>hne a hv1 e.symm
  ·obtain ⟨q1,q2⟩:=h3.2.1 j u hu
   refine ⟨?_,q2⟩
   by_cases hjk:j=k
   ·subst hjk
    rw [hvk] at hu
    injection hu with hu
    subst hu
    rw [List.getElem?_set_self (by omega)]
    exact ho
   ·rw [List.getElem?_set_ne (by omega)]
    refine ownsRow_block q1 fun a ha=>hg.block _ (q1.lt a ha).2 ?_
    cases hv1:v.1 with
    | none=>simp
    | some a' =>
     simp only [Option.map_some,ne_eq,Option.some.injEq]
     rcases Nat.lt_or_gt_of_ne hjk with hjk|hjk
     ·exact fun e=>h3.2.2 j k u v hjk hu hvk a a' ha hv1 e
     ·exact fun e=>h3.2.2 k j v u hjk hvk hu a' a hv1 ha e.symm

theorem Own2.row {lo hi:Nat} {w:World} {A:Option Addr} {n c k:Nat} {yss:List (List Int)} (h:Own2 lo hi w A n c yss) (hk:k<n) :
  ∃b A1 m1 c1,A=some ⟨b,0,none⟩∧w.cell? ⟨b,k,none⟩=some (.slice A1 m1 c1)∧w.frozen? ⟨b,k,none⟩=false∧Own lo w A1 m1 c1 (yss[k]?.getD [])∧Lies A1 lo hi ∧
   ∀w' zs,w.grownBy w' (A1.map (·.block))→Own lo w' A1 m1 c1 zs→Own2 lo hi w' A n c (yss.set k zs):=by
 obtain ⟨b,A1,m1,c1,h1,h2,h3,h4,h5,h6,_⟩:=h.rowX hk
 exact ⟨b,A1,m1,c1,h1,h2,h3,h4,h5,h6⟩

/-! ### a slice of slices among the arguments -/
section
open Go.ChangeShapes Go.WideShapes Go.ChangeAt
variable {H:Type} {enc:TypeId × Value→H} {W:World} {b0 base:Nat} {held:Bool}
end
end Go.Proofs.YtbnfdhidgdfbeaaGreat
