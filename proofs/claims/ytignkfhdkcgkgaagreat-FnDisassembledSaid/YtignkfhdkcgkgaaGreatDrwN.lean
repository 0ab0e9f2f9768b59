/- The reference's draws: a cursor over bytes; what a draw answers lies in its range. The reference's draws of numbers, of words for a checksum, and of a device. The reference's draw of a device: what it answers is a device. Drawing a valid configuration of a tile, of the reference. -/
import Derived.Test.YtignkfhdkcgkgaaGreatBldS
import Derived.Test.YtignkfhdkcgkgaaGreatCw
import Derived.Test.YtignkfhdkcgkgaaGreatDecoS
import Derived.Test.YtignkfhdkcgkgaaGreatDrvS
import Derived.Test.YtignkfhdkcgkgaaGreatHar
namespace Go.Proofs.YtignkfhdkcgkgaaGreat
set_option maxRecDepth 100000
open Go.RowKit

/-- The slice (A, n) reads as the bytes bs, and lies below block B. -/
def Bytes (w:World) (B:Nat) (A:Option Addr) (n:Nat) (bs:List Int):Prop :=
 bs.length=n∧(∀j:Nat,0≤bs[j]?.getD 0∧bs[j]?.getD 0≤255)∧(0<n→∃b o,A=some ⟨b,o,none⟩∧b<B∧∀j,j<n→w.cell? ⟨b,o+j,none⟩=some (.int .u8 (bs[j]?.getD 0)))
theorem Bytes.keep {w w':World} {B:Nat} {A:Option Addr} {n:Nat} {bs:List Int} (h:Bytes w B A n bs) (hk:∀k,k<B→w'.heap[k]?=w.heap[k]?):Bytes w' B A n bs:=by
 refine ⟨h.1,h.2.1,fun hn=>?_⟩
 obtain ⟨b,o,e,hlt,hc⟩:=h.2.2 hn
 exact ⟨b,o,e,hlt,fun j hj=>(World.cell?_of_block (a:=⟨b,o+j,none⟩) (hk b hlt)).trans (hc j hj)⟩
theorem Bytes.below {w w':World} {B:Nat} {A:Option Addr} {n:Nat} {bs:List Int} (h:Bytes w B A n bs) (hb:Below B w w'):Bytes w' B A n bs:=h.keep hb.block
theorem Bytes.more {w:World} {B B':Nat} {A:Option Addr} {n:Nat} {bs:List Int} (h:Bytes w B A n bs) (hB:B≤B'):Bytes w B' A n bs:=by
 refine ⟨h.1,h.2.1,fun hn=>?_⟩
 obtain ⟨b,o,e,hlt,hc⟩:=h.2.2 hn
 exact ⟨b,o,e,Nat.lt_of_lt_of_le hlt hB,hc⟩

def Cur (w:World) (g B:Nat) (A:Option Addr) (n c:Nat) (bs:List Int):Prop :=
 ∃(i:Nat) (h:Int),i≤n∧B≤g∧w.heap[g]?=some (.cells #[.slice A n c,.int .i64 i,.int .i64 h] 138 (0,0))∧Bytes w B A n bs

theorem heap_lt {w:World} {g:Nat} {o:Obj} (h:w.heap[g]?=some o):g<w.heap.size:=by
 rcases Nat.lt_or_ge g w.heap.size with hlt|hge
 ·exact hlt
 ·rw [Array.getElem?_eq_none hge] at h;cases h
theorem Cur.lt {w:World} {g B:Nat} {A:Option Addr} {n c:Nat} {bs:List Int} (h:Cur w g B A n c bs):g<w.heap.size:=by
 obtain ⟨i,x,_,_,hh,_⟩:=h
 exact heap_lt hh
theorem Cur.below {w w':World} {g B:Nat} {A:Option Addr} {n c:Nat} {bs:List Int} (h:Cur w g B A n c bs) (hb:Below w.heap.size w w'):Cur w' g B A n c bs:=by
 have hl:=h.lt
 obtain ⟨i,x,hi,hB,hh,hbs⟩:=h
 exact ⟨i,x,hi,hB,(hb.block g hl).trans hh,hbs.below (hb.mono (Nat.le_trans hB (Nat.le_of_lt hl)))⟩
theorem Cur.keep {w w':World} {g B:Nat} {A:Option Addr} {n c:Nat} {bs:List Int} (h:Cur w g B A n c bs) (hg:w'.heap[g]?=w.heap[g]?) (hk:∀k,k<B→w'.heap[k]?=w.heap[k]?):Cur w' g B A n c bs:=by
 obtain ⟨i,x,hi,hB,hh,hbs⟩:=h
 exact ⟨i,x,hi,hB,hg.trans hh,hbs.keep hk⟩
theorem Own.other {w w':World} {base g' m c':Nat} {xs:List Int} {r:Nat} (k:Own base w (some ⟨g',0,none⟩) m c' xs) (h:w.grownBy w' (some r)) (hne:g'≠r):Own base w' (some ⟨g',0,none⟩) m c' xs :=
 ownsRow_block k fun a ha=>h.block _ (k.lt a ha).2 (by injection ha with ha;subst ha;simpa using hne)

theorem bv_and255 (x:BitVec 64):(x &&& 255#64).toNat≤255:=by
 rw [BitVec.toNat_and]
 exact Nat.le_trans Nat.and_le_right (by decide)
theorem and255_bd (a:Int):0≤bits .and .i64 a 255∧bits .and .i64 a 255≤255:=by
 have h:bits .and .i64 a 255=IntKind.i64.wrap ((BitVec.ofInt 64 a &&& 255#64).toNat:Int):=rfl
 have hb:=bv_and255 (BitVec.ofInt 64 a)
 rw [h,IntWalk.i64_in _ (by omega)]
 omega

set_option maxHeartbeats 1000000 in
theorem l01Byte_any (g B:Nat) (A:Option Addr) (n c:Nat) (bs:List Int) (w:World) (h:Cur w g B A n c bs) (hn:n≤1099511627776) :
  Calls Tryz.prog 100 #[.pointer (some ⟨g,0,none⟩)] w fun e w'=>∃x:Int,e = .returned (.int .i64 x)∧0≤x∧x≤255∧Cur w' g B A n c bs∧w.grownBy w' (some g):=by
 obtain ⟨i,x,hi,hBg,hh,hlen,hbd,hA⟩:=h
 have c0:w.cell? ⟨g,0,none⟩=some (.slice A n c):=by simp [World.cell?,hh]
 have c1:w.cell? ⟨g,1,none⟩=some (.int .i64 i):=by simp [World.cell?,hh]
 have c2:w.cell? ⟨g,2,none⟩=some (.int .i64 x):=by simp [World.cell?,hh]
 have f1:w.frozen? ⟨g,1,none⟩=false:=by simp [World.frozen?,hh]
 have f2:w.frozen? ⟨g,2,none⟩=false:=by simp [World.frozen?,hh]
 have HH:=Lib.hid hh
 have HL:=Lib.hid hlen
 have HB:=Lib.hid hbd
 clear hh hlen hbd
 by_cases hin:i<n
 ·obtain ⟨b,o,rfl,hbg,hc⟩:=hA (by omega)
  have hci:=hc i hin
  have hne:b≠g:=by omega
  have HC:=Lib.hid hc
  clear hc
  have hi0:(0:Int)≤(i:Int):=by omega
  have hi1:(i:Int)<(n:Int):=by omega
  go_enter Tryz.func100,Tryz.ntmps100
  go_wp2_with fail
  generalize wrap64 (wrap64 (x * 6364136223846793005)+1442695040888963407)=x' at *
  go_quiet (fail)
  have hy:=and255_bd (bits .xor .i64 (x' / 8589934592) (x' / 35184372088832))
  generalize bits .and .i64 (bits .xor .i64 (x' / 8589934592) (x' / 35184372088832)) 255=y at *
  go_wp2_with fail
  go_quiet (fail)
  go_wp2_with fail
  go_quiet (fail)
  have hz:=and255_bd (y+bs[i]?.getD 0)
  go_wp2_with fail
  go_ret
  refine ⟨_,rfl,?_,?_,⟨i+1,x',by omega,hBg,?_,HL.out,HB.out,fun _=>⟨b,o,rfl,hbg,fun j hj=>?_⟩⟩,?_⟩
  ·exact (and255_bd _).1
  ·exact (and255_bd _).2
  ·exact (heap_set (w:=(w.setCell ⟨g,2,none⟩ (.int .i64 x')).drewN _) (heap_set HH.out 2 (.int .i64 x')) 1 _).trans (by simp)
  ·exact ((World.cell?_of_block (a:=⟨b,o+j,none⟩) ((heap_set_ne (w:=(w.setCell ⟨g,2,none⟩ (.int .i64 x')).drewN _) (p:=⟨g,1,none⟩) hne _).trans (heap_set_ne (p:=⟨g,2,none⟩) hne _)))).trans (HC.out j hj)
  ·exact grownBy_store (grownBy_drewN (grownBy_store (grownBy_refl _ _) _ _) _) _ _
 ·have hle:decide ((i:Int)<(n:Int))=false:=by simp;omega
  go_enter Tryz.func100,Tryz.ntmps100
  go_wp2_with fail
  generalize wrap64 (wrap64 (x * 6364136223846793005)+1442695040888963407)=x' at *
  go_quiet (fail)
  have hy:=and255_bd (bits .xor .i64 (x' / 8589934592) (x' / 35184372088832))
  generalize bits .and .i64 (bits .xor .i64 (x' / 8589934592) (x' / 35184372088832)) 255=y at *
  go_wp2_with fail
  go_quiet (fail)
  go_wp2_with fail
  go_ret
  refine ⟨_,rfl,?_,?_,⟨i,x',by omega,hBg,?_,HL.out,HB.out,fun _=>?_⟩,?_⟩
  ·exact hy.1
  ·exact hy.2
  ·exact (heap_set HH.out 2 (.int .i64 x')).trans (by simp)
  ·obtain ⟨b,o,rfl,hbg,hc⟩:=hA (by omega)
   exact ⟨b,o,rfl,hbg,fun j hj=>(World.cell?_of_block (a:=⟨b,o+j,none⟩) (heap_set_ne (p:=⟨g,2,none⟩) (by simp only;omega) _)).trans (hc j hj)⟩
  ·exact grownBy_drewN (grownBy_drewN (grownBy_store (grownBy_refl _ _) _ _) _) _

theorem tmod_bd {x n:Int} (_hx:0≤x) (hn:0<n):0≤x % n∧x % n<n:=⟨Int.emod_nonneg _ (by omega),Int.emod_lt_of_pos _ hn⟩

set_option maxHeartbeats 1000000 in
theorem l01Below_any (g B:Nat) (A:Option Addr) (n c:Nat) (bs:List Int) (m:Int) (w:World) (h:Cur w g B A n c bs) (hn:n≤1099511627776) (hm:0<m) (hm':m≤1099511627776) :
  Calls Tryz.prog 37 #[.pointer (some ⟨g,0,none⟩),.int .i64 m] w fun e w'=>∃x:Int,e = .returned (.int .i64 x)∧0≤x∧x<m∧Cur w' g B A n c bs∧w.grownBy w' (some g):=by
 have h0:decide (m≤0)=false:=by simp;omega
 have HC:=Lib.hid h
 clear h
 by_cases h256:m≤256
 ·have h1:decide (m≤256)=true:=by simpa using h256
  go_enter Tryz.func37,Tryz.ntmps37
  go_wp2_with fail
  refine (l01Byte_any g B A n c bs _ HC.out hn).mono ?_
  rintro e w1 ⟨x,rfl,hx0,hx1,k1,g1⟩
  have K1:=Lib.hid k1
  have G1:=Lib.hid g1
  clear k1 g1
  go_wp2_with fail
  go_ret
  exact ⟨_,rfl,(tmod_bd hx0 hm).1,(tmod_bd hx0 hm).2,K1.out,G1.out⟩
 ·have h1:decide (m≤256)=false:=by simpa using h256
  go_enter Tryz.func37,Tryz.ntmps37
  go_wp2_with fail
  refine (l01Byte_any g B A n c bs _ HC.out hn).mono ?_
  rintro e w1 ⟨x,rfl,hx0,hx1,k1,g1⟩
  have K1:=Lib.hid k1
  have G1:=Lib.hid g1
  clear k1 g1
  go_wp2_with fail
  refine (l01Byte_any g B A n c bs _ K1.out hn).mono ?_
  rintro e w2 ⟨y,rfl,hy0,hy1,k2,g2⟩
  have K2:=Lib.hid k2
  have G2:=Lib.hid (grownBy_trans G1.out g2)
  clear k2 g2
  go_wp2_with fail
  refine (l01Byte_any g B A n c bs _ K2.out hn).mono ?_
  rintro e w3 ⟨z,rfl,hz0,hz1,k3,g3⟩
  have K3:=Lib.hid k3
  have G3:=Lib.hid (grownBy_trans G2.out g3)
  clear k3 g3
  go_wp2_with fail
  refine (l01Byte_any g B A n c bs _ K3.out hn).mono ?_
  rintro e w4 ⟨v,rfl,hv0,hv1,k4,g4⟩
  have K4:=Lib.hid k4
  have G4:=Lib.hid (grownBy_trans G3.out g4)
  clear k4 g4
  have hs:0≤x * 16777216+y * 65536+z * 256+v:=by omega
  go_wp2_with fail
  go_ret
  exact ⟨_,rfl,(tmod_bd hs hm).1,(tmod_bd hs hm).2,K4.out,G4.out⟩

set_option maxHeartbeats 1000000 in
theorem l01Once_any (g B:Nat) (A:Option Addr) (n c:Nat) (bs:List Int) (m:Int) (w:World) (h:Cur w g B A n c bs) (hn:n≤1099511627776) (hm:0<m) (hm':m≤1099511627776) :
  Calls Tryz.prog 94 #[.pointer (some ⟨g,0,none⟩),.int .i64 m] w fun e w'=>∃x:Bool,e = .returned (.bool x)∧Cur w' g B A n c bs∧w.grownBy w' (some g):=by
 have HC:=Lib.hid h
 clear h
 go_enter Tryz.func94,Tryz.ntmps94
 go_wp2_with fail
 refine (l01Below_any g B A n c bs m _ HC.out hn hm hm').mono ?_
 rintro e w1 ⟨x,rfl,hx0,hx1,k1,g1⟩
 have K1:=Lib.hid k1
 have G1:=Lib.hid g1
 clear k1 g1
 go_wp2_with fail
 go_ret
 exact ⟨_,rfl,K1.out,G1.out⟩

/-! ### a new cursor -/
set_option maxRecDepth 100000 in
set_option maxHeartbeats 1000000 in
theorem l01New_any (A:Option Addr) (n c:Nat) (bs:List Int) (w:World) (h:Bytes w w.heap.size A n bs) (hn:n≤1099511627776) :
  Calls Tryz.prog 34 #[.slice A n c] w fun e w'=>∃g:Nat,e = .returned (.pointer (some ⟨g,0,none⟩))∧w.heap.size≤g∧Cur w' g w.heap.size A n c bs∧Below w.heap.size w w':=by
 have HB:=Lib.hid h
 obtain ⟨hlen,hbd,hA⟩:=h
 have HX:=Lib.hid hlen
 have HD:=Lib.hid hbd
 clear hlen hbd
 go_enter Tryz.func34,Tryz.ntmps34
 go_wp2_with fail
 go_loopw [3,4] (fun v i wr=>∃(k nq:Nat) (x:Int),k≤n∧i = .int .i64 k∧v = .int .i64 x∧wr=w.drewN nq) (fun _ i _=>n - (intOf i).toNat)
 case atStart=>exact ⟨0,0,_,Nat.zero_le _,rfl,rfl,rfl⟩
 case round =>
  obtain ⟨k,nq,x,hk,rfl,rfl,rfl⟩:=hrel
  by_cases hlt:k<n∧k<4000
  ·obtain ⟨hlt,h4⟩:=hlt
   obtain ⟨b,o,rfl,hbg,hc⟩:=hA (by omega)
   have hck:=hc k hlt
   clear hc
   have hi0:(0:Int)≤(k:Int):=by omega
   have hi1:(k:Int)<(n:Int):=by omega
   go_wp2_with fail
   go_roundw
   case rel=>exact ⟨k+1,_,_,by omega,by go_num,rfl,rfl⟩
   case measure=>simp [intOf];omega
  ·by_cases hlt':k<n
   ·have hd:decide ((k:Int)<4000)=false:=by simp;omega
    go_wp2_with fail
    go_ret
    exact ⟨_,rfl,Nat.le_refl _,⟨0,x,Nat.zero_le _,Nat.le_refl _,heap_new _ _,HB.out.keep fun j hj=>Below.heap_alloc (w.drewN nq) _ _ hj⟩,below_new (below_drewN (Below.refl _ _) _) _⟩
   ·have hd:decide ((k:Int)<(n:Int))=false:=by simp;omega
    go_wp2_with fail
    go_ret
    exact ⟨_,rfl,Nat.le_refl _,⟨0,x,Nat.zero_le _,Nat.le_refl _,heap_new _ _,HB.out.keep fun j hj=>Below.heap_alloc (w.drewN nq) _ _ hj⟩,below_new (below_drewN (Below.refl _ _) _) _⟩
end Go.Proofs.YtignkfhdkcgkgaaGreat

namespace Go.Proofs.YtignkfhdkcgkgaaGreat
set_option maxRecDepth 100000
open Go.RowKit

set_option maxHeartbeats 1000000 in
theorem l01PickInt_any (g B:Nat) (A:Option Addr) (n c:Nat) (bs:List Int) (b o m d:Nat) (w:World) (h:Cur w g B A n c bs) (hn:n≤1099511627776) (hm:0<m) (hm':m≤1099511627776) (hbg:b≠g) (hb:b<w.heap.size)
  (hc:∀j,j<m→∃y:Int,w.cell? ⟨b,o+j,none⟩=some (.int .i64 y)) :
  Calls Tryz.prog 134 #[.pointer (some ⟨g,0,none⟩),.slice (some ⟨b,o,none⟩) m d] w fun e w'=>∃x:Int,e = .returned (.int .i64 x)∧Cur w' g B A n c bs∧w.grownBy w' (some g):=by
 have HC:=Lib.hid h
 have HY:=Lib.hid hc
 clear h hc
 go_enter Tryz.func134,Tryz.ntmps134
 go_wp2_with fail
 refine (l01Below_any g B A n c bs m _ HC.out hn (by omega) (by omega)).mono ?_
 rintro e w1 ⟨x,rfl,hx0,hx1,k1,g1⟩
 obtain ⟨y,hy⟩:=HY.out x.toNat (by omega)
 have hcx:w1.cell? ⟨b,o+x.toNat,none⟩=some (.int .i64 y):=by
  rw [←hy]
  exact World.cell?_of_block (a:=⟨b,o+x.toNat,none⟩) (g1.block b hb (by simpa using hbg))
 have K1:=Lib.hid k1
 have G1:=Lib.hid g1
 clear k1 g1 hy
 go_wp2_with fail
 go_ret
 exact ⟨_,rfl,K1.out,G1.out⟩
/-! ### words for a checksum -/
end Go.Proofs.YtignkfhdkcgkgaaGreat

namespace Go.Proofs.YtignkfhdkcgkgaaGreat
set_option maxRecDepth 100000
open Go.RowKit

theorem grownBy_setNew {w w':World} {r:Option Nat} (h:w.grownBy w' r) {b:Nat} (hb:w.heap.size≤b) (j:Nat) (v:Value):w.grownBy (w'.setCell ⟨b,j,none⟩ v) r :=
 ⟨h.os,h.tape,h.output,by simpa [World.setCell] using h.size,fun k hk hne=>(heap_set_ne (p:=⟨b,j,none⟩) (by simp only;omega) v).trans (h.block k hk hne)⟩
theorem Cur.setNew {w:World} {g B:Nat} {A:Option Addr} {n c:Nat} {bs:List Int} (h:Cur w g B A n c bs) {b:Nat} (hb:g<b) (j:Nat) (v:Value):Cur (w.setCell ⟨b,j,none⟩ v) g B A n c bs:=by
 have hB:B≤g:=by obtain ⟨i,x,hi,hB,_⟩:=h;exact hB
 exact h.keep (heap_set_ne (p:=⟨b,j,none⟩) (by simp only;omega) v) fun k hk=>heap_set_ne (p:=⟨b,j,none⟩) (by simp only;omega) v

end Go.Proofs.YtignkfhdkcgkgaaGreat

namespace Go.Proofs.YtignkfhdkcgkgaaGreat
set_option maxRecDepth 100000
open Go.RowKit

theorem srcs_le26 (d:Dev) (n:Int):(srcs d n).length≤26:=by
 unfold srcs
 split
 ·rename_i h
  have hno:=h.1
  unfold nodeOk at hno
  rw [Bool.and_eq_true] at hno
  have hT:=devOk_bd (node_tk hno.1).1
  have h1:=asc_length_le (itemsOf d (n / perT d) (n % perT d))
  have hK:∀(r:Int) (k:Nat),(candK d (n / perT d) (n % perT d) r (k:Int) (wlen (k:Int)).toNat).length≤1+k % 2:=by
   intro r k
   have hw:(wlen (k:Int)).toNat=1+k % 2:=by unfold wlen;omega
   have hS:∀s:Int,(candS d (n / perT d) (n % perT d) r (k:Int) s).length≤1:=by
    intro s;unfold candS oneOf;split <;> (try split) <;> simp
   have:∀s:Nat,(candK d (n / perT d) (n % perT d) r (k:Int) s).length≤s:=by
    intro s
    induction s with
    | zero=>simp [candK]
    | succ s ih=>rw [candK_succ,List.length_append];have:=hS ((s:Int)+1);omega
   have:=this (wlen (k:Int)).toNat
   omega
  have hR:∀(r:Int) (k:Nat),(candR d (n / perT d) (n % perT d) r k).length≤k+k / 2:=by
   intro r k
   induction k with
   | zero=>simp [candR]
   | succ k ih=>rw [candR_succ,List.length_append];have:=hK r k;omega
  have hA:∀r:Nat,(candA d (n / perT d) (n % perT d) r).length≤6 * r:=by
   intro r
   induction r with
   | zero=>simp [candA]
   | succ r ih=>rw [candA_succ,List.length_append];have:=hR (r:Int) d.T.toNat;omega
  have:=hA 4
  have ho:(outsOf d (n / perT d)).length≤2:=by unfold outsOf;split <;> simp
  have hI:(itemsOf d (n / perT d) (n % perT d)).length≤26:=by
   unfold itemsOf
   rw [List.length_append]
   split
   ·omega
   ·simp;omega
  omega
 ·simp

/-! ### a tile's node -/
set_option maxHeartbeats 1000000 in
theorem smuxNode_some (d:Dev) (t m:Int) (w:World) (hd:devOk d=true) (ht:0≤t∧t<d.W * d.H) (hm:0≤m∧m<(muxN d:Int)) :
  Calls Tryz.prog 219 #[.agg #[.int .i64 d.W,.int .i64 d.H,.int .i64 d.T,.int .i64 d.R],.int .i64 t,.int .i64 m] w fun e w'=>∃x:Int,e = .returned (.int .i64 x)∧Below w.heap.size w w':=by
 have hb:=devOk_bd hd
 have hwh:=dev_WH hd
 have hb0:Below w.heap.size w (w.alloc (.cells #[.int .i64 d.W,.int .i64 d.H,.int .i64 d.T,.int .i64 d.R] 25)):=below_new (Below.refl _ _) _
 have HB0:=Lib.hid hb0
 have HD:=Lib.hid hd
 have TK:=Lib.hid (tileKind_in hd ht.1 ht.2)
 have HK:=Lib.hid (kindOf_bd d t)
 have hmx:=(muxN_bd hd).2.2.1
 have HMN:=Lib.hid (fun w=>smuxCount_n d w hd)
 generalize muxN d=M at *
 have m0:decide (m<0)=false:=by simp;omega
 have m1:decide (m≥(M:Int))=false:=by simp;omega
 clear hb0 hd
 go_enter Tryz.func219,Tryz.ntmps219
 go_wp2_with fail
 refine (stileKind_any d t _ (by omega)).mono ?_
 rintro e w1 ⟨rfl,b1⟩
 rw [TK.out]
 have hk:=HK.out
 clear HK TK
 generalize kindOf d t=kd at *
 have k0:decide (kd<0)=false:=by simp;omega
 have HB1:=Lib.hid b1
 obtain ⟨hcc,hff⟩:=bcell b1
 clear b1 hk
 go_wp2_with fail
 refine (HMN.out _).mono ?_
 rintro e w2 ⟨rfl,b2⟩
 have HB2:=Lib.hid (below_tr HB1.out b2)
 clear b2 hcc hff
 obtain ⟨hcc,hff⟩:=bcell HB2.out
 go_wp2_with fail
 refine (l27Per_any d _ (by omega) (by omega)).mono ?_
 rintro e w3 ⟨rfl,b3⟩
 have HB3:=Lib.hid (below_tr HB2.out b3)
 clear b3 hcc hff
 obtain ⟨hcc,hff⟩:=bcell HB3.out
 by_cases h5:m≥5
 ·have hd5:decide (m≥5)=true:=by simpa using h5
  go_wp2_with fail
  refine (srouteNodeOk_any d _ _).mono ?_
  rintro e w4 ⟨rfl,b4⟩
  have HB4:=Lib.hid (below_tr HB0.out (below_tr HB3.out b4))
  clear b4 hcc hff
  cases nodeOk d _ with
  | true =>
   go_wp2_with fail
   go_ret
   exact ⟨_,rfl,HB4.out⟩
  | false =>
   go_wp2_with fail
   go_ret
   exact ⟨_,rfl,HB4.out⟩
 ·have hd5:decide (m≥5)=false:=by simp;omega
  go_wp2_with fail
  refine (srouteNodeOk_any d _ _).mono ?_
  rintro e w4 ⟨rfl,b4⟩
  have HB4:=Lib.hid (below_tr HB0.out (below_tr HB3.out b4))
  clear b4 hcc hff
  cases nodeOk d _ with
  | true =>
   go_wp2_with fail
   go_ret
   exact ⟨_,rfl,HB4.out⟩
  | false =>
   go_wp2_with fail
   go_ret
   exact ⟨_,rfl,HB4.out⟩
end Go.Proofs.YtignkfhdkcgkgaaGreat
