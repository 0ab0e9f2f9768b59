/- Codewords: the walks of the program's and the reference's functions. Codewords: decoding, repairing, distances. -/
import Derived.Test.YtignkfhdkcgkgaaBit
import Derived.Test.YtignkfhdkcgkgaaCwPure
import Derived.Test.YtignkfhdkcgkgaaHar
namespace Go.Proofs.Ytignkfhdkcgkgaa
set_option maxRecDepth 100000
open Go.RowKit Cw

theorem and_one_nat (x:Nat) (h:x<9223372036854775808):bits .and .i64 (x:Int) 1=((x % 2:Nat):Int):=by
 have:=i64_and_nat x 1 h (by omega)
 rw [Nat.and_one_is_mod] at this
 exact this
theorem shr_bit (c i:Nat) (h:c<9223372036854775808):bits .and .i64 ((c:Int) / 2 ^ i) 1=((bit c i:Nat):Int):=by
 have e:((c:Int) / 2 ^ i)=((c / 2 ^ i:Nat):Int):=by rw [Int.natCast_ediv];simp
 rw [e,and_one_nat _ (Nat.lt_of_le_of_lt (Nat.div_le_self _ _) h)]
 rfl

set_option maxHeartbeats 400000 in
theorem isCheck_any (p:Nat) (w:World) (h0:1≤p) (h1:p≤1000) :
  Calls Try.prog 86 #[.int .i64 p] w fun e w'=>e = .returned (.bool (isP p))∧w=w':=by
 have hb:bits .and .i64 (p:Int) ((p:Int) - 1)=((p &&& (p - 1):Nat):Int):=by
  rw [←i64_and_nat p (p - 1) (by omega) (by omega)]
  congr 1
  omega
 go_enter Try.func86,Try.ntmps86
 go_wp2
 go_ret
 exact ⟨ret_bool (by unfold isP;cases h:(p &&& (p - 1))==0 <;> simp_all),rfl⟩

theorem isCheckS_any (p:Nat) (w:World) (h0:1≤p) (h1:p≤1000) :
  Calls Try.prog 84 #[.int .i64 p] w fun e w'=>e = .returned (.bool (isP p))∧w=w':=by
 have hb:bits .and .i64 (p:Int) ((p:Int) - 1)=((p &&& (p - 1):Nat):Int):=by
  rw [←i64_and_nat p (p - 1) (by omega) (by omega)]
  congr 1
  omega
 go_enter Try.func84,Try.ntmps84
 go_wp2
 go_ret
 exact ⟨ret_bool (by unfold isP;cases h:(p &&& (p - 1))==0 <;> simp_all),rfl⟩

theorem wrap_bit {b k:Nat} (hb:b≤1) (hk:k≤61):wrap64 ((b:Int) * 2 ^ k)=((b * 2 ^ k:Nat):Int):=by
 have hp:=pow_le63 (show k≤62 by omega)
 rw [int_pow_cast]
 generalize 2 ^ k=p at *
 rw [←Int.natCast_mul]
 have:b * p≤p:=by
  rcases Nat.lt_or_ge 0 b with h|h
  ·obtain rfl:b=1:=by omega
   omega
  ·obtain rfl:b=0:=by omega
   omega
 exact IntWalk.wrap64_in _ ⟨by omega,by omega⟩
theorem or_bit {a b k:Nat} (ha:a<2 ^ k) (hb:b≤1) (hk:k≤61):bits .or .i64 (a:Int) (wrap64 ((b:Int) * 2 ^ k))=((a+b * 2 ^ k:Nat):Int):=by
 rw [wrap_bit hb hk]
 have hp:=pow_le63 (show k≤62 by omega)
 rcases Nat.lt_or_ge 0 b with h|h
 ·obtain rfl:b=1:=by omega
  rw [Nat.one_mul,i64_or_nat a (2 ^ k) (by omega) hp,or_pow a k ha]
 ·obtain rfl:b=0:=by omega
  rw [Nat.zero_mul,i64_or_nat a 0 (by omega) (by omega),Nat.or_zero,Nat.add_zero]
theorem add_bit {a b k:Nat} (ha:a<2 ^ k) (hb:b≤1) (hk:k≤60):wrap64 ((a:Int)+wrap64 ((b:Int) * 2 ^ k))=((a+b * 2 ^ k:Nat):Int):=by
 rw [wrap_bit hb (by omega)]
 have h1:=add_pow_lt ha hb
 have h2:=pow_le63 (show k+1≤62 by omega)
 rw [←Int.natCast_add]
 generalize a+b * 2 ^ k=q at *
 exact IntWalk.wrap64_in _ ⟨by omega,by omega⟩

set_option maxHeartbeats 1000000 in
theorem dataBits_any (c:Nat) (w:World) (h:c<4194304) :
  Calls Try.prog 73 #[.int .i64 c] w fun e w'=>e = .returned (.int .i64 (dataW c))∧w=w':=by
 go_enter Try.func73,Try.ntmps73
 go_wp2_with fail
 go_loop [3,4,5] (fun v k p=>∃i:Nat,i≤21∧p = .int .i64 ((i:Int)+1)∧k = .int .i64 (kTo i)∧v = .int .i64 (gatherTo c i)) (fun _ _ p=>22 - (intOf p).toNat)
 case atStart=>exact ⟨0,by omega,rfl,rfl,rfl⟩
 case round =>
  obtain ⟨i,hi,rfl,rfl,rfl⟩:=hrel
  by_cases hlt:i<21
  ·skip
   have hs:=gatherTo.eq_2 c i
   have hk:=kTo.eq_2 i
   have hlo:=gatherTo_lt c i
   have hkl:=kTo_le i
   have hsb:=shr_bit c i (by omega)
   have hor:=or_bit hlo (bit_le c i) (show kTo i≤61 by omega)
   have hadd:=add_bit hlo (bit_le c i) (show kTo i≤60 by omega)
   have HS:=Lib.hid hs
   have HK:=Lib.hid hk
   have HOR:=Lib.hid hor
   have HADD:=Lib.hid hadd
   clear hs hk hlo hor hadd
   have hcp:=isCheck_any (i+1)
   simp only [Int.natCast_add,Int.natCast_one] at hcp
   have HCP:=Lib.hid hcp
   clear hcp
   cases hp:isP (i+1) with
   | true =>
    have HP:=Lib.hid hp
    go_wp2_with (go_at_call 86;refine (HCP.out _ (by omega) (by omega)).mono ?_;rintro e w' ⟨rfl,rfl⟩)
    go_round
    case rel=>exact ⟨i+1,by omega,by go_num,by rw [HK.out,HP.out];simp,by rw [HS.out,HP.out];simp⟩
    case measure=>simp [intOf];omega
   | false =>
    have HP:=Lib.hid hp
    go_wp2_with (go_at_call 86;refine (HCP.out _ (by omega) (by omega)).mono ?_;rintro e w' ⟨rfl,rfl⟩)
    go_round
    case rel=>exact ⟨i+1,by omega,by go_num,by rw [HK.out,HP.out];simp,by rw [HS.out,HP.out];(first|rw [HOR.out]|rw [HADD.out]);simp⟩
    case measure=>simp [intOf];omega
  ·obtain rfl:i=21:=by omega
   go_wp2_with fail
   go_ret
   exact ⟨rfl,rfl⟩
set_option maxHeartbeats 1000000 in
theorem sdataBits_any (c:Nat) (w:World) (h:c<4194304) :
  Calls Try.prog 63 #[.int .i64 c] w fun e w'=>e = .returned (.int .i64 (dataW c))∧w=w':=by
 have hr:inR (c:Int) 0 4194303=true:=inR_iff.2 ⟨by omega,by omega⟩
 go_enter Try.func63,Try.ntmps63
 go_wp2_with (go_at_call 60;refine (l01In_any _ _ _ _).mono ?_;rintro e w' ⟨rfl,rfl⟩)
 go_loop [3,4,5] (fun v k p=>∃i:Nat,i≤21∧p = .int .i64 ((i:Int)+1)∧k = .int .i64 (kTo i)∧v = .int .i64 (gatherTo c i)) (fun _ _ p=>22 - (intOf p).toNat)
 case atStart=>exact ⟨0,by omega,rfl,rfl,rfl⟩
 case round =>
  obtain ⟨i,hi,rfl,rfl,rfl⟩:=hrel
  by_cases hlt:i<21
  ·skip
   have hs:=gatherTo.eq_2 c i
   have hk:=kTo.eq_2 i
   have hlo:=gatherTo_lt c i
   have hkl:=kTo_le i
   have hsb:=shr_bit c i (by omega)
   have hor:=or_bit hlo (bit_le c i) (show kTo i≤61 by omega)
   have hadd:=add_bit hlo (bit_le c i) (show kTo i≤60 by omega)
   have HS:=Lib.hid hs
   have HK:=Lib.hid hk
   have HOR:=Lib.hid hor
   have HADD:=Lib.hid hadd
   clear hs hk hlo hor hadd
   have hcp:=isCheckS_any (i+1)
   simp only [Int.natCast_add,Int.natCast_one] at hcp
   have HCP:=Lib.hid hcp
   clear hcp
   cases hp:isP (i+1) with
   | true =>
    have HP:=Lib.hid hp
    go_wp2_with (go_at_call 84;refine (HCP.out _ (by omega) (by omega)).mono ?_;rintro e w' ⟨rfl,rfl⟩)
    go_round
    case rel=>exact ⟨i+1,by omega,by go_num,by rw [HK.out,HP.out];simp,by rw [HS.out,HP.out];simp⟩
    case measure=>simp [intOf];omega
   | false =>
    have HP:=Lib.hid hp
    go_wp2_with (go_at_call 84;refine (HCP.out _ (by omega) (by omega)).mono ?_;rintro e w' ⟨rfl,rfl⟩)
    go_round
    case rel=>exact ⟨i+1,by omega,by go_num,by rw [HK.out,HP.out];simp,by rw [HS.out,HP.out];(first|rw [HOR.out]|rw [HADD.out]);simp⟩
    case measure=>simp [intOf];omega
  ·obtain rfl:i=21:=by omega
   go_wp2_with fail
   go_ret
   exact ⟨rfl,rfl⟩

/-! ### counting ones -/
/-! ### encoding -/
end Go.Proofs.Ytignkfhdkcgkgaa

namespace Go.Proofs.Ytignkfhdkcgkgaa
set_option maxRecDepth 100000
open Go.RowKit Cw

theorem dataW_lt (c:Nat):dataW c<65536:=gatherTo_lt c 21

/-! ### repairing -/
end Go.Proofs.Ytignkfhdkcgkgaa
