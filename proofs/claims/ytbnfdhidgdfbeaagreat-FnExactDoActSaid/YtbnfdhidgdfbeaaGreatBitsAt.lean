/- BitsAt: the program's and the reference's compute one number. -/
import Derived.Test.YtbnfdhidgdfbeaaGreatCopies
import Derived.Test.YtbnfdhidgdfbeaaGreatHar
namespace Go.Proofs.YtbnfdhidgdfbeaaGreat
set_option maxRecDepth 100000
open Go.RowKit

def hitAt (o:List Int) (t:Int):Bool:=decide (0≤t) && (decide (t<o.length) && (o[t.toNat]?.getD 0==1))
def bitsTo (o ts:List Int):Nat→Int
 | 0=>0
 | k+1=>bitsTo o ts k+if hitAt o (ts[k]?.getD 0) then 2 ^ k else 0
def bitsAt (o ts:List Int):Int:=if ts.length≤40 then bitsTo o ts ts.length else 0
theorem bitsTo_bd (o ts:List Int) (k:Nat):0≤bitsTo o ts k∧bitsTo o ts k<2 ^ k:=by
 induction k with
 | zero=>simp [bitsTo]
 | succ k ih =>
  have hp:(2:Int) ^ (k+1)=2 ^ k+2 ^ k:=by rw [Int.pow_succ];omega
  have:(0:Int)<2 ^ k:=Int.pow_pos (by omega)
  unfold bitsTo
  split <;> omega

set_option maxHeartbeats 400000 in
theorem bitsAt_any (A:Option Addr) (n c:Nat) (xs:List Int) (B:Option Addr) (m d:Nat) (ys:List Int) (w:World) (hA:Ints w A n xs) (hB:Ints w B m ys) (hn:n≤1099511627776) (hm:m≤1099511627776) :
  Calls Tryz.prog 93 #[.slice A n c,.slice B m d] w fun e w'=>e = .returned (.int .i64 (bitsAt xs ys))∧Below w.heap.size w w':=by
 obtain ⟨hx,hA⟩:=hA
 obtain ⟨hy,hB⟩:=hB
 have HX:=Lib.hid hx
 have HY:=Lib.hid hy
 clear hx hy
 by_cases hm4:m≤40
 ·go_enter Tryz.func93,Tryz.ntmps93
  go_wp2_with fail
  go_loopw [5,13] (fun v i wr=>∃k nq:Nat,k≤m∧i = .int .i64 k∧v = .int .i64 (bitsTo xs ys k)∧wr=w.drewN nq) (fun _ i _=>m - (intOf i).toNat)
  case atStart=>exact ⟨0,0,Nat.zero_le _,rfl,rfl,rfl⟩
  case round =>
   obtain ⟨k,nq,hk,rfl,rfl,rfl⟩:=hrel
   obtain ⟨hb0,hb1⟩:=bitsTo_bd xs ys k
   by_cases hlt:k<m
   ·obtain ⟨b,o,rfl,hb,hc⟩:=hB (by omega)
    have hck:=hc k hlt
    have hi0:(0:Int)≤(k:Int):=by omega
    have hi1:(k:Int)<(m:Int):=by omega
    have hs:=bitsTo.eq_2 xs ys k
    have HS:=Lib.hid hs
    clear hc hs
    generalize ys[k]?.getD 0=t at *
    by_cases ht:inR t 0 ((n:Int) - 1)=true
    ·have htb:=inR_iff.1 ht
     obtain ⟨b',o',rfl,hb',hc'⟩:=hA (by omega)
     have hct:=hc' t.toNat (by omega)
     clear hc'
     go_wp2_with (go_at_call 68;refine (inRange_any _ _ _ _).mono ?_;rintro e w' ⟨rfl,rfl⟩)
     ·have h1:xs[t.toNat]?.getD 0=1:=by simpa using ‹(xs[t.toNat]?.getD 0==1)=true›
      have hh:hitAt xs t=true:=by simp [hitAt,h1,HX.out];omega
      go_roundw
      case rel=>exact ⟨k+1,_,by omega,by go_num,by
       rw [HS.out,hh,wrap_pow (by omega),i64_or_pow _ _ hb0 hb1 (by omega)];simp,rfl⟩
      case measure=>simp [intOf];omega
     ·have h1:xs[t.toNat]?.getD 0≠1:=by simpa using ‹(xs[t.toNat]?.getD 0==1)=false›
      have hh:hitAt xs t=false:=by simp [hitAt,h1]
      go_roundw
      case rel=>exact ⟨k+1,_,by omega,by go_num,by rw [HS.out,hh];simp,rfl⟩
      case measure=>simp [intOf];omega
    ·go_wp2_with (go_at_call 68;refine (inRange_any _ _ _ _).mono ?_;rintro e w' ⟨rfl,rfl⟩)
     go_roundw
     case rel=>exact ⟨k+1,_,by omega,by go_num,by
      rw [HS.out]
      have:hitAt xs t=false:=by
       have:=inR_false.1 (Bool.not_eq_true _ ▸ ht)
       simp only [hitAt,HX.out,Bool.and_eq_false_iff,decide_eq_false_iff_not];omega
      simp [this],rfl⟩
     case measure=>simp [intOf];omega
   ·have hkn:k=m:=by omega
    subst hkn
    go_wp2
    go_ret
    exact ⟨ret_int (by simp [bitsAt,HY.out,hm4]),below_drewN (Below.refl _ _) _⟩
 ·have hne:decide ((m:Int)>40)=true:=by simp;omega
  go_enter Tryz.func93,Tryz.ntmps93
  go_wp2_with fail
  go_ret
  exact ⟨ret_int (by simp [bitsAt,HY.out,hm4]),Below.refl _ _⟩

set_option maxHeartbeats 1000000 in
theorem sbitsAt_any (A:Option Addr) (n c:Nat) (xs:List Int) (B:Option Addr) (m d:Nat) (ys:List Int) (w:World) (hA:Ints w A n xs) (hB:Ints w B m ys) (hn:n≤1099511627776) (hm:m≤1099511627776) :
  Calls Tryz.prog 78 #[.slice A n c,.slice B m d] w fun e w'=>e = .returned (.int .i64 (bitsAt xs ys))∧Below w.heap.size w w':=by
 obtain ⟨hx,hA⟩:=hA
 obtain ⟨hy,hB⟩:=hB
 have HX:=Lib.hid hx
 have HY:=Lib.hid hy
 clear hx hy
 by_cases hm4:m≤40
 ·have hm4':decide ((m:Int)≤40)=true:=by simp;omega
  go_enter Tryz.func78,Tryz.ntmps78
  go_wp2_with fail
  go_loopw [5,6] (fun v i wr=>∃k nq:Nat,k≤m∧i = .int .i64 k∧v = .int .i64 (bitsTo xs ys k)∧wr=w.drewN nq) (fun _ i _=>m - (intOf i).toNat)
  case atStart=>exact ⟨0,0,Nat.zero_le _,rfl,rfl,rfl⟩
  case round =>
   obtain ⟨k,nq,hk,rfl,rfl,rfl⟩:=hrel
   obtain ⟨hb0,hb1⟩:=bitsTo_bd xs ys k
   by_cases hlt:k<m
   ·obtain ⟨b,o,rfl,hb,hc⟩:=hB (by omega)
    have hck:=hc k hlt
    have hi0:(0:Int)≤(k:Int):=by omega
    have hi1:(k:Int)<(m:Int):=by omega
    have hs:=bitsTo.eq_2 xs ys k
    have HS:=Lib.hid hs
    clear hc hs
    generalize ys[k]?.getD 0=t at *
    by_cases ht:inR t 0 ((n:Int) - 1)=true
    ·have htb:=inR_iff.1 ht
     obtain ⟨b',o',rfl,hb',hc'⟩:=hA (by omega)
     have hct:=hc' t.toNat (by omega)
     clear hc'
     have hw0:wrap64 (2 ^ k)=2 ^ k:=wrap_pow (by omega)
     have hw1:wrap64 (bitsTo xs ys k+wrap64 (2 ^ k))=bitsTo xs ys k+2 ^ k:=by
      rw [hw0]
      have hp:=pow_le63 (show k≤61+1 by omega)
      have hp':2 ^ k<4611686018427387904:=Nat.lt_of_lt_of_le (Nat.pow_lt_pow_right (by omega) (show k<41 by omega)) (by decide)
      rw [int_pow_cast] at hb1 ⊢
      generalize 2 ^ k=p at *
      exact IntWalk.wrap64_in _ ⟨by omega,by omega⟩
     have HW:=Lib.hid hw1
     clear hw0 hw1
     go_wp2_with fail
     ·have h1:xs[t.toNat]?.getD 0=1:=by simpa using ‹(xs[t.toNat]?.getD 0==1)=true›
      have hh:hitAt xs t=true:=by simp [hitAt,h1,HX.out];omega
      go_roundw
      case rel=>exact ⟨k+1,_,by omega,by go_num,by rw [HS.out,hh,HW.out];simp,rfl⟩
      case measure=>simp [intOf];omega
     ·have h1:xs[t.toNat]?.getD 0≠1:=by simpa using ‹(xs[t.toNat]?.getD 0==1)=false›
      have hh:hitAt xs t=false:=by simp [hitAt,h1]
      go_roundw
      case rel=>exact ⟨k+1,_,by omega,by go_num,by rw [HS.out,hh];simp,rfl⟩
      case measure=>simp [intOf];omega
    ·have hh:hitAt xs t=false:=by
      have:=inR_false.1 (Bool.not_eq_true _ ▸ ht)
      simp only [hitAt,HX.out,Bool.and_eq_false_iff,decide_eq_false_iff_not];omega
     rcases inR_false.1 (Bool.not_eq_true _ ▸ ht) with h|h
     ·have hd:decide (t≥0)=false:=by simp;omega
      clear hA
      go_wp2_with fail
      go_roundw
      case rel=>exact ⟨k+1,_,by omega,by go_num,by rw [HS.out,hh];simp,rfl⟩
      case measure=>simp [intOf];omega
     ·have hd:decide (t<(n:Int))=false:=by simp;omega
      have hd':decide (t≥0)=true:=by simp;omega
      clear hA
      go_wp2_with fail
      go_roundw
      case rel=>exact ⟨k+1,_,by omega,by go_num,by rw [HS.out,hh];simp,rfl⟩
      case measure=>simp [intOf];omega
   ·have hkn:k=m:=by omega
    subst hkn
    go_wp2
    go_ret
    exact ⟨ret_int (by simp [bitsAt,HY.out,hm4]),below_drewN (Below.refl _ _) _⟩
 ·have hne:decide ((m:Int)≤40)=false:=by simp;omega
  by_cases h0:m=0
  ·omega
  have hp:(0:Int)<(m:Int):=by omega
  go_enter Tryz.func78,Tryz.ntmps78
  go_wp2_with fail
  refine wp_loop_rounds 1 ?_;rw [rounds_succ]
  go_wp2
  go_ret
  exact ⟨ret_int (by simp [bitsAt,HY.out,hm4]),Below.refl _ _⟩
end Go.Proofs.YtbnfdhidgdfbeaaGreat
