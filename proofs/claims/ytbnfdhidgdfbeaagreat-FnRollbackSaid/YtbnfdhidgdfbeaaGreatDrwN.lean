/- The reference's draws of numbers, of words for a checksum, and of a device. The reference's draw of a device: what it answers is a device. Drawing a valid configuration of a tile, of the reference. -/
import Derived.Test.YtbnfdhidgdfbeaaGreatDecoS
import Derived.Test.YtbnfdhidgdfbeaaGreatDrvS
import Derived.Test.YtbnfdhidgdfbeaaGreatEncT
import Derived.Test.YtbnfdhidgdfbeaaGreatPads
import Derived.Test.YtbnfdhidgdfbeaaGreatRow2W
namespace Go.Proofs.YtbnfdhidgdfbeaaGreat
set_option maxRecDepth 100000
open Go.RowKit

/-! ### words for a checksum -/
end Go.Proofs.YtbnfdhidgdfbeaaGreat

namespace Go.Proofs.YtbnfdhidgdfbeaaGreat
set_option maxRecDepth 100000
open Go.RowKit

theorem grownBy_setNew {w w':World} {r:Option Nat} (h:w.grownBy w' r) {b:Nat} (hb:w.heap.size≤b) (j:Nat) (v:Value):w.grownBy (w'.setCell ⟨b,j,none⟩ v) r :=
 ⟨h.os,h.tape,h.output,by simpa [World.setCell] using h.size,fun k hk hne=>(heap_set_ne (p:=⟨b,j,none⟩) (by simp only;omega) v).trans (h.block k hk hne)⟩
theorem Cur.setNew {w:World} {g B:Nat} {A:Option Addr} {n c:Nat} {bs:List Int} (h:Cur w g B A n c bs) {b:Nat} (hb:g<b) (j:Nat) (v:Value):Cur (w.setCell ⟨b,j,none⟩ v) g B A n c bs:=by
 have hB:B≤g:=by obtain ⟨i,x,hi,hB,_⟩:=h;exact hB
 exact h.keep (heap_set_ne (p:=⟨b,j,none⟩) (by simp only;omega) v) fun k hk=>heap_set_ne (p:=⟨b,j,none⟩) (by simp only;omega) v

end Go.Proofs.YtbnfdhidgdfbeaaGreat

namespace Go.Proofs.YtbnfdhidgdfbeaaGreat
set_option maxRecDepth 100000
open Go.RowKit

theorem srcs_le26 (d:Dev) (n:Int):(srcs d n).length≤26:=by
 unfold srcs
 split
 ·rename_i h
  have hno:=h.1
  unfold nodeOk at hno
  rw [Bool.and_eq_true] at hno
  have hT:=devOk_bd (node_tk hno.1).1
  have h1:=asc_length_le (itemsOf d (n / perT d) (n % perT d))
  have hK:∀(r:Int) (k:Nat),(candK d (n / perT d) (n % perT d) r (k:Int) (wlen (k:Int)).toNat).length≤1+k % 2:=by
   intro r k
   have hw:(wlen (k:Int)).toNat=1+k % 2:=by unfold wlen;omega
   have hS:∀s:Int,(candS d (n / perT d) (n % perT d) r (k:Int) s).length≤1:=by
    intro s;unfold candS oneOf;split <;> (try split) <;> simp
   have:∀s:Nat,(candK d (n / perT d) (n % perT d) r (k:Int) s).length≤s:=by
    intro s
    induction s with
    | zero=>simp [candK]
    | succ s ih=>rw [candK_succ,List.length_append];have:=hS ((s:Int)+1);omega
   have:=this (wlen (k:Int)).toNat
   omega
  have hR:∀(r:Int) (k:Nat),(candR d (n / perT d) (n % perT d) r k).length≤k+k / 2:=by
   intro r k
   induction k with
   | zero=>simp [candR]
   | succ k ih=>rw [candR_succ,List.length_append];have:=hK r k;omega
  have hA:∀r:Nat,(candA d (n / perT d) (n % perT d) r).length≤6 * r:=by
   intro r
   induction r with
   | zero=>simp [candA]
   | succ r ih=>rw [candA_succ,List.length_append];have:=hR (r:Int) d.T.toNat;omega
  have:=hA 4
  have ho:(outsOf d (n / perT d)).length≤2:=by unfold outsOf;split <;> simp
  have hI:(itemsOf d (n / perT d) (n % perT d)).length≤26:=by
   unfold itemsOf
   rw [List.length_append]
   split
   ·omega
   ·simp;omega
  omega
 ·simp

/-! ### a tile's node -/
set_option maxHeartbeats 1000000 in
theorem smuxNode_some (d:Dev) (t m:Int) (w:World) (hd:devOk d=true) (ht:0≤t∧t<d.W * d.H) (hm:0≤m∧m<(muxN d:Int)) :
  Calls Tryz.prog 200 #[.agg #[.int .i64 d.W,.int .i64 d.H,.int .i64 d.T,.int .i64 d.R],.int .i64 t,.int .i64 m] w fun e w'=>∃x:Int,e = .returned (.int .i64 x)∧Below w.heap.size w w':=by
 have hb:=devOk_bd hd
 have hwh:=dev_WH hd
 have hb0:Below w.heap.size w (w.alloc (.cells #[.int .i64 d.W,.int .i64 d.H,.int .i64 d.T,.int .i64 d.R] 25)):=below_new (Below.refl _ _) _
 have HB0:=Lib.hid hb0
 have HD:=Lib.hid hd
 have TK:=Lib.hid (tileKind_in hd ht.1 ht.2)
 have HK:=Lib.hid (kindOf_bd d t)
 have hmx:=(muxN_bd hd).2.2.1
 have HMN:=Lib.hid (fun w=>smuxCount_n d w hd)
 generalize muxN d=M at *
 have m0:decide (m<0)=false:=by simp;omega
 have m1:decide (m≥(M:Int))=false:=by simp;omega
 clear hb0 hd
 go_enter Tryz.func200,Tryz.ntmps200
 go_wp2_with fail
 refine (stileKind_any d t _ (by omega)).mono ?_
 rintro e w1 ⟨rfl,b1⟩
 rw [TK.out]
 have hk:=HK.out
 clear HK TK
 generalize kindOf d t=kd at *
 have k0:decide (kd<0)=false:=by simp;omega
 have HB1:=Lib.hid b1
 obtain ⟨hcc,hff⟩:=bcell b1
 clear b1 hk
 go_wp2_with fail
 refine (HMN.out _).mono ?_
 rintro e w2 ⟨rfl,b2⟩
 have HB2:=Lib.hid (below_tr HB1.out b2)
 clear b2 hcc hff
 obtain ⟨hcc,hff⟩:=bcell HB2.out
 go_wp2_with fail
 refine (l27Per_any d _ (by omega) (by omega)).mono ?_
 rintro e w3 ⟨rfl,b3⟩
 have HB3:=Lib.hid (below_tr HB2.out b3)
 clear b3 hcc hff
 obtain ⟨hcc,hff⟩:=bcell HB3.out
 by_cases h5:m≥5
 ·have hd5:decide (m≥5)=true:=by simpa using h5
  go_wp2_with fail
  refine (srouteNodeOk_any d _ _).mono ?_
  rintro e w4 ⟨rfl,b4⟩
  have HB4:=Lib.hid (below_tr HB0.out (below_tr HB3.out b4))
  clear b4 hcc hff
  cases nodeOk d _ with
  | true =>
   go_wp2_with fail
   go_ret
   exact ⟨_,rfl,HB4.out⟩
  | false =>
   go_wp2_with fail
   go_ret
   exact ⟨_,rfl,HB4.out⟩
 ·have hd5:decide (m≥5)=false:=by simp;omega
  go_wp2_with fail
  refine (srouteNodeOk_any d _ _).mono ?_
  rintro e w4 ⟨rfl,b4⟩
  have HB4:=Lib.hid (below_tr HB0.out (below_tr HB3.out b4))
  clear b4 hcc hff
  cases nodeOk d _ with
  | true =>
   go_wp2_with fail
   go_ret
   exact ⟨_,rfl,HB4.out⟩
  | false =>
   go_wp2_with fail
   go_ret
   exact ⟨_,rfl,HB4.out⟩
end Go.Proofs.YtbnfdhidgdfbeaaGreat
