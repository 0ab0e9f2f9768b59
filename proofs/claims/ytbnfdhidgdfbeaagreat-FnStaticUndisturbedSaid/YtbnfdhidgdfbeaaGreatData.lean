/- Codewords: the walks of the program's and the reference's functions. Codewords: decoding, repairing, distances. Checksum: the program's and the reference's compute one number. The data of frames and their checksum: the program's and the reference's answers are one. -/
import Derived.Test.YtbnfdhidgdfbeaaGreatCopies
import Derived.Test.YtbnfdhidgdfbeaaGreatHar
import Derived.Test.YtbnfdhidgdfbeaaGreatPads
import Derived.Test.YtbnfdhidgdfbeaaGreatTilePure
namespace Go.Proofs.YtbnfdhidgdfbeaaGreat
set_option maxRecDepth 100000
open Go.RowKit Cw

theorem and_one_nat (x:Nat) (h:x<9223372036854775808):bits .and .i64 (x:Int) 1=((x % 2:Nat):Int):=by
 have:=i64_and_nat x 1 h (by omega)
 rw [Nat.and_one_is_mod] at this
 exact this
theorem shr_bit (c i:Nat) (h:c<9223372036854775808):bits .and .i64 ((c:Int) / 2 ^ i) 1=((bit c i:Nat):Int):=by
 have e:((c:Int) / 2 ^ i)=((c / 2 ^ i:Nat):Int):=by rw [Int.natCast_ediv];simp
 rw [e,and_one_nat _ (Nat.lt_of_le_of_lt (Nat.div_le_self _ _) h)]
 rfl

set_option maxHeartbeats 400000 in
theorem isCheck_any (p:Nat) (w:World) (h0:1≤p) (h1:p≤1000) :
  Calls Tryz.prog 145 #[.int .i64 p] w fun e w'=>e = .returned (.bool (isP p))∧w=w':=by
 have hb:bits .and .i64 (p:Int) ((p:Int) - 1)=((p &&& (p - 1):Nat):Int):=by
  rw [←i64_and_nat p (p - 1) (by omega) (by omega)]
  congr 1
  omega
 go_enter Tryz.func145,Tryz.ntmps145
 go_wp2
 go_ret
 exact ⟨ret_bool (by unfold isP;cases h:(p &&& (p - 1))==0 <;> simp_all),rfl⟩

set_option maxHeartbeats 1000000 in
theorem syndrome_any (c : Nat) (w : World) (h : c < 4194304) :
    Calls Tryz.prog 177 #[.int .i64 c] w fun e w' => e = .returned (.int .i64 (synW c)) ∧ w = w' := by
  go_enter Tryz.func177, Tryz.ntmps177
  go_wp2_with fail
  go_loop [3, 4] (fun v p => ∃ i : Nat, i ≤ 21 ∧ p = .int .i64 ((i : Int) + 1) ∧ v = .int .i64 (synTo c i)) (fun _ p => 22 - (intOf p).toNat)
  case atStart => exact ⟨0, by omega, rfl, rfl⟩
  case round =>
    obtain ⟨i, hi, rfl, rfl⟩ := hrel
    by_cases hlt : i < 21
    · have hs := synTo.eq_2 c i
      have hlo := synTo_lt c i (by omega)
      have hsb := shr_bit c i (by omega)
      have HS := Lib.hid hs
      clear hs
      have hx := i64_xor_nat (synTo c i) (i + 1) (by omega) (by omega)
      have HXR := Lib.hid hx
      clear hx
      go_wp2_with fail
      · have hb : bit c i = 1 := by have : ((bit c i : Nat) : Int) = 1 := by simpa using ‹(((bit c i : Nat) : Int) == 1) = true›
                                    omega
        go_round
        case rel => exact ⟨i + 1, by omega, by go_num, by rw [HS.out, if_pos hb, ← HXR.out]; simp⟩
        case measure => simp [intOf]; omega
      · have hb : ¬ bit c i = 1 := by have : ¬ ((bit c i : Nat) : Int) = 1 := by simpa using ‹(((bit c i : Nat) : Int) == 1) = false›
                                      omega
        go_round
        case rel => exact ⟨i + 1, by omega, by go_num, by rw [HS.out, if_neg hb]⟩
        case measure => simp [intOf]; omega
    · obtain rfl : i = 21 := by omega
      go_wp2_with fail
      go_ret
      exact ⟨rfl, rfl⟩
set_option maxHeartbeats 1000000 in
theorem ssyndrome_any (c : Nat) (w : World) (h : c < 4194304) :
    Calls Tryz.prog 182 #[.int .i64 c] w fun e w' => e = .returned (.int .i64 (synW c)) ∧ w = w' := by
  have hr : inR (c : Int) 0 4194303 = true := inR_iff.2 ⟨by omega, by omega⟩
  go_enter Tryz.func182, Tryz.ntmps182
  go_wp2_with (go_at_call 119; refine (l01In_any _ _ _ _).mono ?_; rintro e w' ⟨rfl, rfl⟩)
  go_loop [3, 4] (fun v p => ∃ i : Nat, i ≤ 21 ∧ p = .int .i64 ((i : Int) + 1) ∧ v = .int .i64 (synTo c i)) (fun _ p => 22 - (intOf p).toNat)
  case atStart => exact ⟨0, by omega, rfl, rfl⟩
  case round =>
    obtain ⟨i, hi, rfl, rfl⟩ := hrel
    by_cases hlt : i < 21
    · have hs := synTo.eq_2 c i
      have hlo := synTo_lt c i (by omega)
      have hsb := shr_bit c i (by omega)
      have HS := Lib.hid hs
      clear hs
      have hx := i64_xor_nat (synTo c i) (i + 1) (by omega) (by omega)
      have HXR := Lib.hid hx
      clear hx
      go_wp2_with fail
      · have hb : bit c i = 1 := by have : ((bit c i : Nat) : Int) = 1 := by simpa using ‹(((bit c i : Nat) : Int) == 1) = true›
                                    omega
        go_round
        case rel => exact ⟨i + 1, by omega, by go_num, by rw [HS.out, if_pos hb, ← HXR.out]; simp⟩
        case measure => simp [intOf]; omega
      · have hb : ¬ bit c i = 1 := by have : ¬ ((bit c i : Nat) : Int) = 1 := by simpa using ‹(((bit c i : Nat) : Int) == 1) = false›
                                      omega
        go_round
        case rel => exact ⟨i + 1, by omega, by go_num, by rw [HS.out, if_neg hb]⟩
        case measure => simp [intOf]; omega
    · obtain rfl : i = 21 := by omega
      go_wp2_with fail
      go_ret
      exact ⟨rfl, rfl⟩

theorem isCheckS_any (p:Nat) (w:World) (h0:1≤p) (h1:p≤1000) :
  Calls Tryz.prog 181 #[.int .i64 p] w fun e w'=>e = .returned (.bool (isP p))∧w=w':=by
 have hb:bits .and .i64 (p:Int) ((p:Int) - 1)=((p &&& (p - 1):Nat):Int):=by
  rw [←i64_and_nat p (p - 1) (by omega) (by omega)]
  congr 1
  omega
 go_enter Tryz.func181,Tryz.ntmps181
 go_wp2
 go_ret
 exact ⟨ret_bool (by unfold isP;cases h:(p &&& (p - 1))==0 <;> simp_all),rfl⟩

theorem wrap_bit {b k:Nat} (hb:b≤1) (hk:k≤61):wrap64 ((b:Int) * 2 ^ k)=((b * 2 ^ k:Nat):Int):=by
 have hp:=pow_le63 (show k≤62 by omega)
 rw [int_pow_cast]
 generalize 2 ^ k=p at *
 rw [←Int.natCast_mul]
 have:b * p≤p:=by
  rcases Nat.lt_or_ge 0 b with h|h
  ·obtain rfl:b=1:=by omega
   omega
  ·obtain rfl:b=0:=by omega
   omega
 exact IntWalk.wrap64_in _ ⟨by omega,by omega⟩
theorem or_bit {a b k:Nat} (ha:a<2 ^ k) (hb:b≤1) (hk:k≤61):bits .or .i64 (a:Int) (wrap64 ((b:Int) * 2 ^ k))=((a+b * 2 ^ k:Nat):Int):=by
 rw [wrap_bit hb hk]
 have hp:=pow_le63 (show k≤62 by omega)
 rcases Nat.lt_or_ge 0 b with h|h
 ·obtain rfl:b=1:=by omega
  rw [Nat.one_mul,i64_or_nat a (2 ^ k) (by omega) hp,or_pow a k ha]
 ·obtain rfl:b=0:=by omega
  rw [Nat.zero_mul,i64_or_nat a 0 (by omega) (by omega),Nat.or_zero,Nat.add_zero]
theorem add_bit {a b k:Nat} (ha:a<2 ^ k) (hb:b≤1) (hk:k≤60):wrap64 ((a:Int)+wrap64 ((b:Int) * 2 ^ k))=((a+b * 2 ^ k:Nat):Int):=by
 rw [wrap_bit hb (by omega)]
 have h1:=add_pow_lt ha hb
 have h2:=pow_le63 (show k+1≤62 by omega)
 rw [←Int.natCast_add]
 generalize a+b * 2 ^ k=q at *
 exact IntWalk.wrap64_in _ ⟨by omega,by omega⟩

set_option maxHeartbeats 1000000 in
theorem dataBits_any (c:Nat) (w:World) (h:c<4194304) :
  Calls Tryz.prog 69 #[.int .i64 c] w fun e w'=>e = .returned (.int .i64 (dataW c))∧w=w':=by
 go_enter Tryz.func69,Tryz.ntmps69
 go_wp2_with fail
 go_loop [3,4,5] (fun v k p=>∃i:Nat,i≤21∧p = .int .i64 ((i:Int)+1)∧k = .int .i64 (kTo i)∧v = .int .i64 (gatherTo c i)) (fun _ _ p=>22 - (intOf p).toNat)
 case atStart=>exact ⟨0,by omega,rfl,rfl,rfl⟩
 case round =>
  obtain ⟨i,hi,rfl,rfl,rfl⟩:=hrel
  by_cases hlt:i<21
  ·skip
   have hs:=gatherTo.eq_2 c i
   have hk:=kTo.eq_2 i
   have hlo:=gatherTo_lt c i
   have hkl:=kTo_le i
   have hsb:=shr_bit c i (by omega)
   have hor:=or_bit hlo (bit_le c i) (show kTo i≤61 by omega)
   have hadd:=add_bit hlo (bit_le c i) (show kTo i≤60 by omega)
   have HS:=Lib.hid hs
   have HK:=Lib.hid hk
   have HOR:=Lib.hid hor
   have HADD:=Lib.hid hadd
   clear hs hk hlo hor hadd
   have hcp:=isCheck_any (i+1)
   simp only [Int.natCast_add,Int.natCast_one] at hcp
   have HCP:=Lib.hid hcp
   clear hcp
   cases hp:isP (i+1) with
   | true =>
    have HP:=Lib.hid hp
    go_wp2_with (go_at_call 145;refine (HCP.out _ (by omega) (by omega)).mono ?_;rintro e w' ⟨rfl,rfl⟩)
    go_round
    case rel=>exact ⟨i+1,by omega,by go_num,by rw [HK.out,HP.out];simp,by rw [HS.out,HP.out];simp⟩
    case measure=>simp [intOf];omega
   | false =>
    have HP:=Lib.hid hp
    go_wp2_with (go_at_call 145;refine (HCP.out _ (by omega) (by omega)).mono ?_;rintro e w' ⟨rfl,rfl⟩)
    go_round
    case rel=>exact ⟨i+1,by omega,by go_num,by rw [HK.out,HP.out];simp,by rw [HS.out,HP.out];(first|rw [HOR.out]|rw [HADD.out]);simp⟩
    case measure=>simp [intOf];omega
  ·obtain rfl:i=21:=by omega
   go_wp2_with fail
   go_ret
   exact ⟨rfl,rfl⟩
set_option maxHeartbeats 1000000 in
theorem sdataBits_any (c:Nat) (w:World) (h:c<4194304) :
  Calls Tryz.prog 175 #[.int .i64 c] w fun e w'=>e = .returned (.int .i64 (dataW c))∧w=w':=by
 have hr:inR (c:Int) 0 4194303=true:=inR_iff.2 ⟨by omega,by omega⟩
 go_enter Tryz.func175,Tryz.ntmps175
 go_wp2_with (go_at_call 119;refine (l01In_any _ _ _ _).mono ?_;rintro e w' ⟨rfl,rfl⟩)
 go_loop [3,4,5] (fun v k p=>∃i:Nat,i≤21∧p = .int .i64 ((i:Int)+1)∧k = .int .i64 (kTo i)∧v = .int .i64 (gatherTo c i)) (fun _ _ p=>22 - (intOf p).toNat)
 case atStart=>exact ⟨0,by omega,rfl,rfl,rfl⟩
 case round =>
  obtain ⟨i,hi,rfl,rfl,rfl⟩:=hrel
  by_cases hlt:i<21
  ·skip
   have hs:=gatherTo.eq_2 c i
   have hk:=kTo.eq_2 i
   have hlo:=gatherTo_lt c i
   have hkl:=kTo_le i
   have hsb:=shr_bit c i (by omega)
   have hor:=or_bit hlo (bit_le c i) (show kTo i≤61 by omega)
   have hadd:=add_bit hlo (bit_le c i) (show kTo i≤60 by omega)
   have HS:=Lib.hid hs
   have HK:=Lib.hid hk
   have HOR:=Lib.hid hor
   have HADD:=Lib.hid hadd
   clear hs hk hlo hor hadd
   have hcp:=isCheckS_any (i+1)
   simp only [Int.natCast_add,Int.natCast_one] at hcp
   have HCP:=Lib.hid hcp
   clear hcp
   cases hp:isP (i+1) with
   | true =>
    have HP:=Lib.hid hp
    go_wp2_with (go_at_call 181;refine (HCP.out _ (by omega) (by omega)).mono ?_;rintro e w' ⟨rfl,rfl⟩)
    go_round
    case rel=>exact ⟨i+1,by omega,by go_num,by rw [HK.out,HP.out];simp,by rw [HS.out,HP.out];simp⟩
    case measure=>simp [intOf];omega
   | false =>
    have HP:=Lib.hid hp
    go_wp2_with (go_at_call 181;refine (HCP.out _ (by omega) (by omega)).mono ?_;rintro e w' ⟨rfl,rfl⟩)
    go_round
    case rel=>exact ⟨i+1,by omega,by go_num,by rw [HK.out,HP.out];simp,by rw [HS.out,HP.out];(first|rw [HOR.out]|rw [HADD.out]);simp⟩
    case measure=>simp [intOf];omega
  ·obtain rfl:i=21:=by omega
   go_wp2_with fail
   go_ret
   exact ⟨rfl,rfl⟩

/-! ### counting ones -/
theorem popTo_stop {c k m : Nat} (h : c / 2 ^ k = 0) (hk : k ≤ m) : popTo c m = popTo c k := by
  induction m with
  | zero => obtain rfl : k = 0 := by omega
            rfl
  | succ m ih =>
    rcases Nat.lt_or_ge m k with h1 | h1
    · obtain rfl : k = m + 1 := by omega
      rfl
    · rw [popTo, ih h1, bit, Nat.div_eq_of_lt]
      · simp
      · have h2 : c < 2 ^ k := by
          rcases Nat.lt_or_ge c (2 ^ k) with h3 | h3
          · exact h3
          · have := Nat.div_pos h3 (Nat.two_pow_pos k)
            omega
        exact Nat.lt_of_lt_of_le h2 (Nat.pow_le_pow_right (by omega) h1)

set_option maxHeartbeats 1000000 in
theorem bitCount_any (c:Nat) (w:World) (h:c<4194304) :
  Calls Tryz.prog 178 #[.int .i64 c] w fun e w'=>e = .returned (.int .i64 (onesW c))∧w=w':=by
 go_enter Tryz.func178,Tryz.ntmps178
 go_wp2_with fail
 go_loop [0,3] (fun n v=>∃k:Nat,k≤22∧n = .int .i64 ((c / 2 ^ k:Nat):Int)∧v = .int .i64 (popTo c k)) (fun n _=>(intOf n).toNat)
 case atStart=>exact ⟨0,by omega,by simp,rfl⟩
 case round =>
  obtain ⟨k,hk,rfl,rfl⟩:=hrel
  have hle:c / 2 ^ k≤c:=Nat.div_le_self _ _
  have hand:=and_one_nat (c / 2 ^ k) (by omega)
  have hpl:=popTo_le c k
  have hst:=popTo_stop (c:=c) (k:=k) (m:=22)
  have HST:=Lib.hid hst
  have hs:=popTo.eq_2 c k
  have HS:=Lib.hid hs
  have hbd:bit c k=c / 2 ^ k % 2:=rfl
  have HBD:=Lib.hid hbd
  have hdv:c / 2 ^ (k+1)=c / 2 ^ k / 2:=by rw [Nat.pow_succ,Nat.div_div_eq_div_mul]
  have HDV:=Lib.hid hdv
  have hbig:¬k<22→c / 2 ^ k=0:=fun hk'=>by
   obtain rfl:k=22:=by omega
   exact Nat.div_eq_of_lt h
  have HBIG:=Lib.hid hbig
  clear hst hs hbd hdv hbig
  generalize c / 2 ^ k=q at *
  by_cases hq:0<q
  ·have hk22:k<22:=by
    rcases Nat.lt_or_ge k 22 with h1|h1
    ·exact h1
    ·have:=HBIG.out (by omega);omega
   go_wp2_with fail
   go_round
   case rel=>exact ⟨k+1,by omega,by rw [HDV.out];simp,by rw [HS.out,HBD.out];simp⟩
   case measure=>simp [intOf];omega
  ·obtain rfl:q=0:=by omega
   go_wp2_with fail
   go_ret
   exact ⟨ret_int (by rw [onesW,HST.out (by first|trivial|rfl) hk]),rfl⟩

set_option maxHeartbeats 1000000 in
theorem sOnes_any (c:Nat) (w:World) (h:c<4194304) :
  Calls Tryz.prog 183 #[.int .i64 c] w fun e w'=>e = .returned (.int .i64 (onesW c))∧w=w':=by
 go_enter Tryz.func183,Tryz.ntmps183
 go_wp2_with fail
 go_loop [3,4] (fun v i=>∃k:Nat,k≤22∧i = .int .i64 k∧v = .int .i64 (popTo c k)) (fun _ i=>22 - (intOf i).toNat)
 case atStart=>exact ⟨0,by omega,rfl,rfl⟩
 case round =>
  obtain ⟨k,hk,rfl,rfl⟩:=hrel
  have hpl:=popTo_le c k
  have hbl:=bit_le c k
  have hsb:=shr_bit c k (by omega)
  have hs:=popTo.eq_2 c k
  have HS:=Lib.hid hs
  clear hs
  by_cases hlt:k<22
  ·go_wp2_with fail
   go_round
   case rel=>exact ⟨k+1,by omega,by go_num,by rw [HS.out];simp⟩
   case measure=>simp [intOf];omega
  ·obtain rfl:k=22:=by omega
   go_wp2_with fail
   go_ret
   exact ⟨rfl,rfl⟩

/-! ### encoding -/
theorem bit_and_pow (s j:Nat):s &&& 2 ^ j=bit s j * 2 ^ j:=Go.nat_bit j s

set_option maxHeartbeats 2000000 in
theorem encodeWord_any (x:Nat) (w:World) (h:x<65536) :
  Calls Tryz.prog 176 #[.int .i64 x] w fun e w'=>e = .returned (.int .i64 (encW x))∧w=w':=by
 have hr:inR (x:Int) 0 65535=true:=inR_iff.2 ⟨by omega,by omega⟩
 go_enter Tryz.func176,Tryz.ntmps176
 go_wp2_with (go_at_call 68;refine (inRange_any _ _ _ _).mono ?_;rintro e w' ⟨rfl,rfl⟩)
 go_loop [3,4,5] (fun v k p=>∃i:Nat,i≤21∧p = .int .i64 ((i:Int)+1)∧k = .int .i64 (kTo i)∧v = .int .i64 (spreadTo x i)) (fun _ _ p=>22 - (intOf p).toNat)
 case atStart=>exact ⟨0,by omega,rfl,rfl,rfl⟩
 case round =>
  obtain ⟨i,hi,rfl,rfl,rfl⟩:=hrel
  by_cases hlt:i<21
  ·skip
   have hs:=spreadTo.eq_2 x i
   have hk:=kTo.eq_2 i
   have hlo:=spreadTo_lt x i
   have hkl:=kTo_le i
   have hsb:=shr_bit x (kTo i) (by omega)
   have hor:=or_bit hlo (bit_le x (kTo i)) (show i≤61 by omega)
   have hadd:=add_bit hlo (bit_le x (kTo i)) (show i≤60 by omega)
   have HS:=Lib.hid hs
   have HK:=Lib.hid hk
   have HOR:=Lib.hid hor
   have HADD:=Lib.hid hadd
   clear hs hk hlo hor hadd
   have hcp:=isCheck_any (i+1)
   simp only [Int.natCast_add,Int.natCast_one] at hcp
   have HCP:=Lib.hid hcp
   clear hcp
   cases hp:isP (i+1) with
   | true =>
    have HP:=Lib.hid hp
    go_wp2_with (go_at_call 145;refine (HCP.out _ (by omega) (by omega)).mono ?_;rintro e w' ⟨rfl,rfl⟩)
    go_round
    case rel=>exact ⟨i+1,by omega,by go_num,by rw [HK.out,HP.out];simp,by rw [HS.out,HP.out];simp⟩
    case measure=>simp [intOf];omega
   | false =>
    have HP:=Lib.hid hp
    go_wp2_with (go_at_call 145;refine (HCP.out _ (by omega) (by omega)).mono ?_;rintro e w' ⟨rfl,rfl⟩)
    go_round
    case rel=>exact ⟨i+1,by omega,by go_num,by rw [HK.out,HP.out];simp,by rw [HS.out,HP.out];(first|rw [HOR.out]|rw [HADD.out]);simp⟩
    case measure=>simp [intOf];omega
  ·obtain rfl:i=21:=by omega
   have hsp:=spreadTo_lt x 21
   have hsl:=synTo_lt (spreadTo x 21) 21 (by omega)
   have hcl:=fun j hj=>chk_lt (s:=synW (spreadTo x 21)) hsp j hj
   have HCL:=Lib.hid hcl
   have hC:=fun j=>chkTo.eq_2 (spreadTo x 21) (synW (spreadTo x 21)) j
   have HC:=Lib.hid hC
   have hE:encW x=chkTo (spreadTo x 21) (synW (spreadTo x 21)) 5+onesW (chkTo (spreadTo x 21) (synW (spreadTo x 21)) 5) % 2 * 2 ^ 21:=rfl
   have HE:=Lib.hid hE
   clear hcl hC hE
   go_wp2_with (go_at_call 177;refine (syndrome_any _ _ (by omega)).mono ?_;rintro e w' ⟨rfl,rfl⟩)
   have hs5:synW (spreadTo x 21)<32:=hsl
   clear hsl
   generalize synW (spreadTo x 21)=s at *
   have h0:chkTo (spreadTo x 21) s 0=spreadTo x 21:=rfl
   have H0:=Lib.hid h0
   clear h0
   go_loop [3,7] (fun v p=>∃j:Nat,j≤5∧p = .int .i64 ((2 ^ j:Nat):Int)∧v = .int .i64 (chkTo (spreadTo x 21) s j)) (fun _ p=>33 - (intOf p).toNat)
   case atStart=>exact ⟨0,by omega,rfl,by rw [H0.out]⟩
   case round =>
    obtain ⟨j,hj,rfl,rfl⟩:=hrel
    have hlt:=HCL.out j hj
    have hCj:=HC.out j
    have hbl:=bit_le s j
    have hand:=i64_and_nat s (2 ^ j) (by omega) (pow_le63 (show j≤62 by omega))
    rw [bit_and_pow] at hand
    have HCJ:=Lib.hid hCj
    generalize ho:chkTo (spreadTo x 21) s j=o at *
    have HO:=Lib.hid ho
    clear ho
    generalize hbv:bit s j=bv at *
    have HBV:=Lib.hid hbv
    clear hCj hbv
    rcases (by omega:j=0∨j=1∨j=2∨j=3∨j=4∨j=5) with rfl|rfl|rfl|rfl|rfl|rfl
    ·rcases (by omega:bv=0∨bv=1) with rfl|rfl
     ·simp at hand
      go_wp2_with fail
      go_round
      case rel=>exact ⟨1,by omega,by simp,by rw [HCJ.out];simp⟩
      case measure=>simp [intOf]
     ·simp at hand
      go_wp2_with fail
      go_round
      case rel=>exact ⟨1,by omega,by simp,congrArg (Value.int .i64) ((i64_or_nat o 1 (by omega) (by omega)).trans (by rw [HCJ.out]))⟩
      case measure=>simp [intOf]
    ·rcases (by omega:bv=0∨bv=1) with rfl|rfl
     ·simp at hand
      go_wp2_with fail
      go_round
      case rel=>exact ⟨2,by omega,by simp,by rw [HCJ.out];simp⟩
      case measure=>simp [intOf]
     ·simp at hand
      go_wp2_with fail
      go_round
      case rel=>exact ⟨2,by omega,by simp,congrArg (Value.int .i64) ((i64_or_nat o 2 (by omega) (by omega)).trans (by rw [HCJ.out]))⟩
      case measure=>simp [intOf]
    ·rcases (by omega:bv=0∨bv=1) with rfl|rfl
     ·simp at hand
      go_wp2_with fail
      go_round
      case rel=>exact ⟨3,by omega,by simp,by rw [HCJ.out];simp⟩
      case measure=>simp [intOf]
     ·simp at hand
      go_wp2_with fail
      go_round
      case rel=>exact ⟨3,by omega,by simp,congrArg (Value.int .i64) ((i64_or_nat o 8 (by omega) (by omega)).trans (by rw [HCJ.out]))⟩
      case measure=>simp [intOf]
    ·rcases (by omega:bv=0∨bv=1) with rfl|rfl
     ·simp at hand
      go_wp2_with fail
      go_round
      case rel=>exact ⟨4,by omega,by simp,by rw [HCJ.out];simp⟩
      case measure=>simp [intOf]
     ·simp at hand
      go_wp2_with fail
      go_round
      case rel=>exact ⟨4,by omega,by simp,congrArg (Value.int .i64) ((i64_or_nat o 128 (by omega) (by omega)).trans (by rw [HCJ.out]))⟩
      case measure=>simp [intOf]
    ·rcases (by omega:bv=0∨bv=1) with rfl|rfl
     ·simp at hand
      go_wp2_with fail
      go_round
      case rel=>exact ⟨5,by omega,by simp,by rw [HCJ.out];simp⟩
      case measure=>simp [intOf]
     ·simp at hand
      go_wp2_with fail
      go_round
      case rel=>exact ⟨5,by omega,by simp,congrArg (Value.int .i64) ((i64_or_nat o 32768 (by omega) (by omega)).trans (by rw [HCJ.out]))⟩
      case measure=>simp [intOf]
    ·have hpl:=popTo_le o 22
     have hpl':onesW o≤22:=hpl
     have hmod:=and_one_nat (onesW o) (by omega)
     have hm2:onesW o % 2≤1:=by omega
     have hfin:=or_bit (k:=21) hlt hm2 (by omega)
     rw [wrap_bit hm2 (by omega)] at hfin
     have HFIN:=Lib.hid hfin
     clear hfin hand HCL HC H0 HCJ HBV hpl
     go_wp2_with (go_at_call 178;refine (bitCount_any _ _ (by omega)).mono ?_;rintro e w' ⟨rfl,rfl⟩)
     go_ret
     refine ⟨ret_int ?_,rfl⟩
     rw [HE.out,HO.out,←HFIN.out]
     rfl
set_option maxHeartbeats 2000000 in
theorem sencodeWord_any (x:Nat) (w:World) (h:x<65536) :
  Calls Tryz.prog 148 #[.int .i64 x] w fun e w'=>e = .returned (.int .i64 (encW x))∧Below w.heap.size w w':=by
 have hr:inR (x:Int) 0 65535=true:=inR_iff.2 ⟨by omega,by omega⟩
 go_enter Tryz.func148,Tryz.ntmps148
 go_wp2_with (go_at_call 119;refine (l01In_any _ _ _ _).mono ?_;rintro e w' ⟨rfl,rfl⟩)
 go_loop [3,4,5] (fun v k p=>∃i:Nat,i≤21∧p = .int .i64 ((i:Int)+1)∧k = .int .i64 (kTo i)∧v = .int .i64 (spreadTo x i)) (fun _ _ p=>22 - (intOf p).toNat)
 case atStart=>exact ⟨0,by omega,rfl,rfl,rfl⟩
 case round =>
  obtain ⟨i,hi,rfl,rfl,rfl⟩:=hrel
  by_cases hlt:i<21
  ·skip
   have hs:=spreadTo.eq_2 x i
   have hk:=kTo.eq_2 i
   have hlo:=spreadTo_lt x i
   have hkl:=kTo_le i
   have hsb:=shr_bit x (kTo i) (by omega)
   have hor:=or_bit hlo (bit_le x (kTo i)) (show i≤61 by omega)
   have hadd:=add_bit hlo (bit_le x (kTo i)) (show i≤60 by omega)
   have HS:=Lib.hid hs
   have HK:=Lib.hid hk
   have HOR:=Lib.hid hor
   have HADD:=Lib.hid hadd
   clear hs hk hlo hor hadd
   have hcp:=isCheckS_any (i+1)
   simp only [Int.natCast_add,Int.natCast_one] at hcp
   have HCP:=Lib.hid hcp
   clear hcp
   cases hp:isP (i+1) with
   | true =>
    have HP:=Lib.hid hp
    go_wp2_with (go_at_call 181;refine (HCP.out _ (by omega) (by omega)).mono ?_;rintro e w' ⟨rfl,rfl⟩)
    go_round
    case rel=>exact ⟨i+1,by omega,by go_num,by rw [HK.out,HP.out];simp,by rw [HS.out,HP.out];simp⟩
    case measure=>simp [intOf];omega
   | false =>
    have HP:=Lib.hid hp
    go_wp2_with (go_at_call 181;refine (HCP.out _ (by omega) (by omega)).mono ?_;rintro e w' ⟨rfl,rfl⟩)
    go_round
    case rel=>exact ⟨i+1,by omega,by go_num,by rw [HK.out,HP.out];simp,by rw [HS.out,HP.out];(first|rw [HOR.out]|rw [HADD.out]);simp⟩
    case measure=>simp [intOf];omega
  ·obtain rfl:i=21:=by omega
   have hsp:=spreadTo_lt x 21
   have hsl:=synTo_lt (spreadTo x 21) 21 (by omega)
   have hcl:=fun j hj=>chk_lt (s:=synW (spreadTo x 21)) hsp j hj
   have HCL:=Lib.hid hcl
   have hC:=fun j=>chkTo.eq_2 (spreadTo x 21) (synW (spreadTo x 21)) j
   have HC:=Lib.hid hC
   have hE:encW x=chkTo (spreadTo x 21) (synW (spreadTo x 21)) 5+onesW (chkTo (spreadTo x 21) (synW (spreadTo x 21)) 5) % 2 * 2 ^ 21:=rfl
   have HE:=Lib.hid hE
   clear hcl hC hE
   go_wp2_with (go_at_call 182;refine (ssyndrome_any _ _ (by omega)).mono ?_;rintro e w' ⟨rfl,rfl⟩)
   have hs5:synW (spreadTo x 21)<32:=hsl
   clear hsl
   generalize synW (spreadTo x 21)=s at *
   have h0:chkTo (spreadTo x 21) s 0=spreadTo x 21:=rfl
   have H0:=Lib.hid h0
   clear h0
   go_loopw [3,7] (fun v p wr=>∃j nq:Nat,j≤5∧p = .int .i64 (j:Int)∧v = .int .i64 (chkTo (spreadTo x 21) s j)∧wr=w.drewN nq) (fun _ p _=>6 - (intOf p).toNat)
   case atStart=>exact ⟨0,0,by omega,rfl,by rw [H0.out],rfl⟩
   case round =>
    obtain ⟨j,nq,hj,rfl,rfl,rfl⟩:=hrel
    have hlt:=HCL.out j hj
    have hCj:j<5→chkTo (spreadTo x 21) s j+bit s j * 2 ^ (2 ^ j - 1)=chkTo (spreadTo x 21) s (j+1):=chk_add x s j
    have hbl:=bit_le s j
    have hand:=shr_bit s j (by omega)
    have HCJ:=Lib.hid hCj
    generalize ho:chkTo (spreadTo x 21) s j=o at *
    have HO:=Lib.hid ho
    clear ho
    generalize hbv:bit s j=bv at *
    have HBV:=Lib.hid hbv
    clear hCj hbv
    rcases (by omega:j=0∨j=1∨j=2∨j=3∨j=4∨j=5) with rfl|rfl|rfl|rfl|rfl|rfl
    ·rcases (by omega:bv=0∨bv=1) with rfl|rfl
     ·simp at hand
      go_wp2_with fail
      go_quiet (fail)
      go_wp2_with fail
      go_roundw
      case rel=>exact ⟨1,_,by omega,by simp,by rw [←HCJ.out (by omega)];simp,rfl⟩
      case measure=>simp [intOf]
     ·simp at hand
      go_wp2_with fail
      go_quiet (fail)
      go_wp2_with fail
      go_roundw
      case rel=>exact ⟨1,_,by omega,by simp,by rw [←HCJ.out (by omega)];simp,rfl⟩
      case measure=>simp [intOf]
    ·rcases (by omega:bv=0∨bv=1) with rfl|rfl
     ·simp at hand
      go_wp2_with fail
      go_quiet (fail)
      go_wp2_with fail
      go_roundw
      case rel=>exact ⟨2,_,by omega,by simp,by rw [←HCJ.out (by omega)];simp,rfl⟩
      case measure=>simp [intOf]
     ·simp at hand
      go_wp2_with fail
      go_quiet (fail)
      go_wp2_with fail
      go_roundw
      case rel=>exact ⟨2,_,by omega,by simp,by rw [←HCJ.out (by omega)];simp,rfl⟩
      case measure=>simp [intOf]
    ·rcases (by omega:bv=0∨bv=1) with rfl|rfl
     ·simp at hand
      go_wp2_with fail
      go_quiet (fail)
      go_wp2_with fail
      go_roundw
      case rel=>exact ⟨3,_,by omega,by simp,by rw [←HCJ.out (by omega)];simp,rfl⟩
      case measure=>simp [intOf]
     ·simp at hand
      go_wp2_with fail
      go_quiet (fail)
      go_wp2_with fail
      go_roundw
      case rel=>exact ⟨3,_,by omega,by simp,by rw [←HCJ.out (by omega)];simp,rfl⟩
      case measure=>simp [intOf]
    ·rcases (by omega:bv=0∨bv=1) with rfl|rfl
     ·simp at hand
      go_wp2_with fail
      go_quiet (fail)
      go_wp2_with fail
      go_roundw
      case rel=>exact ⟨4,_,by omega,by simp,by rw [←HCJ.out (by omega)];simp,rfl⟩
      case measure=>simp [intOf]
     ·simp at hand
      go_wp2_with fail
      go_quiet (fail)
      go_wp2_with fail
      go_roundw
      case rel=>exact ⟨4,_,by omega,by simp,by rw [←HCJ.out (by omega)];simp,rfl⟩
      case measure=>simp [intOf]
    ·rcases (by omega:bv=0∨bv=1) with rfl|rfl
     ·simp at hand
      go_wp2_with fail
      go_quiet (fail)
      go_wp2_with fail
      go_roundw
      case rel=>exact ⟨5,_,by omega,by simp,by rw [←HCJ.out (by omega)];simp,rfl⟩
      case measure=>simp [intOf]
     ·simp at hand
      go_wp2_with fail
      go_quiet (fail)
      go_wp2_with fail
      go_roundw
      case rel=>exact ⟨5,_,by omega,by simp,by rw [←HCJ.out (by omega)];simp,rfl⟩
      case measure=>simp [intOf]
    ·have hpl:=popTo_le o 22
     have hpl':onesW o≤22:=hpl
     clear hand HCL HC H0 HCJ HBV hpl
     go_wp2_with (go_at_call 183;refine (sOnes_any _ _ (by omega)).mono ?_;rintro e w' ⟨rfl,rfl⟩)
     go_ret
     exact ⟨ret_int (by rw [HE.out,HO.out];simp),below_drewN (Below.refl _ _) _⟩
end Go.Proofs.YtbnfdhidgdfbeaaGreat

namespace Go.Proofs.YtbnfdhidgdfbeaaGreat
set_option maxRecDepth 100000
open Go.RowKit Cw

theorem range_true {c:Nat} (h:c<4194304):inR (c:Int) 0 4194303=true:=inR_iff.2 ⟨by omega,by omega⟩
theorem dataW_lt (c:Nat):dataW c<65536:=gatherTo_lt c 21

/-- What DecodeWord answers for a number in its range. -/
def decN (c:Nat):Nat × Nat :=
 if onesW c % 2=0 then (if synW c=0 then (dataW c,0) else (0,2))
 else if synW c=0 then (dataW c,1) else if synW c≤21 then (dataW (c ^^^ 2 ^ (synW c - 1)),1) else (0,2)
def decW (code:Int):Int × Int:=if inR code 0 4194303=true then (((decN code.toNat).1:Int),((decN code.toNat).2:Int)) else (0,2)
def repW (code:Int):Int × Int:=if (decW code).2=1 then ((encW (decW code).1.toNat:Nat),1) else (code,(decW code).2)
theorem decW_bad {code:Int} (h:inR code 0 4194303=false):decW code=(0,2):=by rw [decW,h];rfl
theorem decW_nat {c:Nat} (h:c<4194304):decW (c:Int)=(((decN c).1:Int),((decN c).2:Int)):=by rw [decW,range_true h];simp

theorem xor_pow_lt {c k:Nat} (h:c<4194304) (hk:k≤21):c ^^^ 2 ^ k<4194304:=by
 have h1:2 ^ k<2 ^ 22:=Nat.pow_lt_pow_right (by omega) (by omega)
 exact Nat.xor_lt_two_pow (n:=22) (by omega) h1

set_option maxHeartbeats 2000000 in
theorem decodeWord_any (code:Int) (w:World) :
  Calls Tryz.prog 143 #[.int .i64 code] w fun e w'=>e = .returned (.tuple #[.int .i64 (decW code).1,.int .i64 (decW code).2])∧w=w':=by
 cases hr:inR code 0 4194303 with
 | false =>
  have HD:=Lib.hid (decW_bad hr)
  go_enter Tryz.func143,Tryz.ntmps143
  go_wp2_with (go_at_call 68;refine (inRange_any _ _ _ _).mono ?_;rintro e w' ⟨rfl,rfl⟩)
  go_ret2
  exact ⟨by rw [HD.out];rfl,rfl⟩
 | true =>
  have hb:=inR_iff.1 hr
  obtain ⟨c,rfl⟩:=Int.eq_ofNat_of_zero_le hb.1
  have hc:c<4194304:=by omega
  have HD:=Lib.hid (decW_nat hc)
  have HN:Hid (decN c=if onesW c % 2=0 then (if synW c=0 then (dataW c,0) else (0,2))
   else if synW c=0 then (dataW c,1) else if synW c≤21 then (dataW (c ^^^ 2 ^ (synW c - 1)),1) else (0,2)):=rfl
  have hs:synW c<32:=synTo_lt c 21 (by omega)
  have ho:onesW c≤22:=popTo_le c 22
  have hx21:bits .xor .i64 (c:Int) 2097152=((c ^^^ 2097152:Nat):Int):=i64_xor_nat c 2097152 (by omega) (by omega)
  have hx21':c ^^^ 2097152<4194304:=xor_pow_lt (k:=21) hc (by omega)
  generalize hsy:synW c=s at *
  have HSY:=Lib.hid hsy
  clear hsy
  have HON:Hid (onesW c=onesW c):=rfl
  generalize hoy:onesW c=o at *
  have HOY:=Lib.hid hoy
  clear hoy HON
  rcases (by omega:o % 2=0∨o % 2=1) with ho2|ho2
  ·have hoi:(o:Int) % 2=0:=by omega
   have HO2:=Lib.hid ho2
   clear ho2
   rcases Nat.eq_zero_or_pos s with rfl|hs0
   ·have HV:Hid (decN c=(dataW c,0)):=by unfold Hid;rw [HN.out,if_pos HO2.out,if_pos rfl]
    clear HN
    go_enter Tryz.func143,Tryz.ntmps143
    go_wp2_with (first
     | (go_at_call 68;refine (inRange_any _ _ _ _).mono ?_;rintro e w' ⟨rfl,rfl⟩)
     | (go_at_call 177;refine (syndrome_any _ _ hc).mono ?_;rintro e w' ⟨rfl,rfl⟩;rw [HSY.out])
     | (go_at_call 178;refine (bitCount_any _ _ hc).mono ?_;rintro e w' ⟨rfl,rfl⟩;rw [HOY.out])
     | (go_at_call 69;refine (dataBits_any _ _ hc).mono ?_;rintro e w' ⟨rfl,rfl⟩))
    go_ret2
    exact ⟨by rw [HD.out,HV.out];simp,rfl⟩
   ·have HV:Hid (decN c=(0,2)):=by unfold Hid;rw [HN.out,if_pos HO2.out,if_neg (by omega)]
    have hs1:((s:Int)==0)=false:=by simp;omega
    clear HN
    go_enter Tryz.func143,Tryz.ntmps143
    go_wp2_with (first
     | (go_at_call 68;refine (inRange_any _ _ _ _).mono ?_;rintro e w' ⟨rfl,rfl⟩)
     | (go_at_call 177;refine (syndrome_any _ _ hc).mono ?_;rintro e w' ⟨rfl,rfl⟩;rw [HSY.out])
     | (go_at_call 178;refine (bitCount_any _ _ hc).mono ?_;rintro e w' ⟨rfl,rfl⟩;rw [HOY.out]))
    go_ret2
    exact ⟨by rw [HD.out,HV.out];simp,rfl⟩
  ·have hoi:(o:Int) % 2=1:=by omega
   have HO2:=Lib.hid ho2
   clear ho2
   rcases Nat.eq_zero_or_pos s with rfl|hs0
   ·have HV:Hid (decN c=(dataW c,1)):=by unfold Hid;rw [HN.out,if_neg (by rw [HO2.out];omega),if_pos rfl]
    clear HN
    go_enter Tryz.func143,Tryz.ntmps143
    go_wp2_with (first
     | (go_at_call 68;refine (inRange_any _ _ _ _).mono ?_;rintro e w' ⟨rfl,rfl⟩)
     | (go_at_call 177;refine (syndrome_any _ _ hc).mono ?_;rintro e w' ⟨rfl,rfl⟩;rw [HSY.out])
     | (go_at_call 178;refine (bitCount_any _ _ hc).mono ?_;rintro e w' ⟨rfl,rfl⟩;rw [HOY.out])
     | (go_at_call 69;refine (dataBits_any _ _ hx21').mono ?_;rintro e w' ⟨rfl,rfl⟩;rw [dataW_flip21]))
    go_ret2
    exact ⟨by rw [HD.out,HV.out];simp,rfl⟩
   ·rcases Nat.lt_or_ge 21 s with h21|h21
    ·have HV:Hid (decN c=(0,2)):=by unfold Hid;rw [HN.out,if_neg (by rw [HO2.out];omega),if_neg (by omega),if_neg (by omega)]
     have hs1:((s:Int)==0)=false:=by simp;omega
     clear HN
     go_enter Tryz.func143,Tryz.ntmps143
     go_wp2_with (first
      | (go_at_call 68;refine (inRange_any _ _ _ _).mono ?_;rintro e w' ⟨rfl,rfl⟩)
      | (go_at_call 177;refine (syndrome_any _ _ hc).mono ?_;rintro e w' ⟨rfl,rfl⟩;rw [HSY.out])
      | (go_at_call 178;refine (bitCount_any _ _ hc).mono ?_;rintro e w' ⟨rfl,rfl⟩;rw [HOY.out]))
     go_ret2
     exact ⟨by rw [HD.out,HV.out];simp,rfl⟩
    ·have HV:Hid (decN c=(dataW (c ^^^ 2 ^ (s - 1)),1)):=by unfold Hid;rw [HN.out,if_neg (by rw [HO2.out];omega),if_neg (by omega),if_pos h21]
     obtain ⟨k,rfl⟩:∃k,s=k+1:=⟨s - 1,by omega⟩
     have hs1:((k:Int)+1==0)=false:=by simp;omega
     have hwp:wrap64 (2 ^ k)=2 ^ k:=wrap_pow (by omega)
     have hxk:bits .xor .i64 (c:Int) (2 ^ k)=((c ^^^ 2 ^ k:Nat):Int):=by
      rw [int_pow_cast];exact i64_xor_nat c _ (by omega) (pow_le63 (by omega))
     have hxl:c ^^^ 2 ^ k<4194304:=xor_pow_lt hc (by omega)
     clear HN
     go_enter Tryz.func143,Tryz.ntmps143
     go_wp2_with (first
      | (go_at_call 68;refine (inRange_any _ _ _ _).mono ?_;rintro e w' ⟨rfl,rfl⟩)
      | (go_at_call 177;refine (syndrome_any _ _ hc).mono ?_;rintro e w' ⟨rfl,rfl⟩;rw [HSY.out])
      | (go_at_call 178;refine (bitCount_any _ _ hc).mono ?_;rintro e w' ⟨rfl,rfl⟩;rw [HOY.out])
      | (go_at_call 69;refine (dataBits_any _ _ hxl).mono ?_;rintro e w' ⟨rfl,rfl⟩))
     go_ret2
     exact ⟨by rw [HD.out,HV.out];simp,rfl⟩
/-! ### repairing -/
theorem decN_data (c:Nat):(decN c).1<65536:=by
 unfold decN
 split
 ·split
  ·exact dataW_lt c
  ·simp
 ·split
  ·exact dataW_lt c
  ·split
   ·exact dataW_lt _
   ·simp
theorem decW_data (code:Int):0≤(decW code).1∧(decW code).1<65536:=by
 unfold decW
 split
 ·have:=decN_data code.toNat
  simp only;omega
 ·simp
set_option maxHeartbeats 1000000 in
theorem repairWord_any (code:Int) (w:World) :
  Calls Tryz.prog 142 #[.int .i64 code] w fun e w'=>e = .returned (.tuple #[.int .i64 (repW code).1,.int .i64 (repW code).2])∧Below w.heap.size w w':=by
 have hd:=decW_data code
 have HR:Hid (repW code=if (decW code).2=1 then (((encW (decW code).1.toNat:Nat):Int),1) else (code,(decW code).2)):=rfl
 generalize hx:decW code=dw at *
 have HX:=Lib.hid hx
 clear hx
 obtain ⟨x,st⟩:=dw
 simp only at hd
 by_cases h1:st=1
 ·subst h1
  obtain ⟨x,rfl⟩:=Int.eq_ofNat_of_zero_le hd.1
  go_enter Tryz.func142,Tryz.ntmps142
  go_wp2_with (first
   | (go_at_call 143;refine (decodeWord_any _ _).mono ?_;rintro e w' ⟨rfl,rfl⟩;rw [HX.out])
   | (go_at_call 176;refine (encodeWord_any x _ (by omega)).mono ?_;rintro e w1 ⟨rfl,b1⟩;have B1:=Lib.hid ((by subst b1;exact Below.refl _ _:Below w.heap.size w w1));clear b1))
  go_ret2
  exact ⟨by rw [HR.out];simp,B1.out⟩
 ·have hs:(st==1)=false:=by simpa using h1
  go_enter Tryz.func142,Tryz.ntmps142
  go_wp2_with (first
   | (go_at_call 143;refine (decodeWord_any _ _).mono ?_;rintro e w' ⟨rfl,rfl⟩;rw [HX.out]))
  go_ret2
  exact ⟨by rw [HR.out,if_neg h1];simp,Below.refl _ _⟩
end Go.Proofs.YtbnfdhidgdfbeaaGreat

namespace Go.Proofs.YtbnfdhidgdfbeaaGreat
set_option maxRecDepth 100000
open Go.RowKit

def csBit (c:Int):Int:=if bits .and .i64 c 1==1 then bits .xor .i64 (c / 2) 33800 else c / 2
def csIter:Nat→Int→Int
 | 0,c=>c
 | k+1,c=>csBit (csIter k c)
def csWord (c x:Int):Int:=csIter 16 (bits .xor .i64 c (bits .and .i64 x 65535))
def csumTo (xs:List Int) (k:Nat):Int:=(xs.take k).foldl csWord 65535
def csum (xs:List Int):Int:=xs.foldl csWord 65535

set_option maxHeartbeats 400000 in
theorem checksum_any (A:Option Addr) (n c:Nat) (xs:List Int) (w:World) (hA:Ints w A n xs) (hn:n≤1099511627776) :
  Calls Tryz.prog 70 #[.slice A n c] w fun e w'=>e = .returned (.int .i64 (csum xs))∧Below w.heap.size w w':=by
 obtain ⟨hx,hA⟩:=hA
 have HX:=Lib.hid hx
 clear hx
 go_enter Tryz.func70,Tryz.ntmps70
 go_wp2_with fail
 go_loop [3,10] (fun v i=>∃k:Nat,k≤n∧i = .int .i64 k∧v = .int .i64 (csumTo xs k)) (fun _ i=>n - (intOf i).toNat)
 case atStart=>exact ⟨0,Nat.zero_le _,rfl,rfl⟩
 case round =>
  obtain ⟨k,hk,rfl,rfl⟩:=hrel
  by_cases hlt:k<n
  ·obtain ⟨b,o,rfl,hb,hc⟩:=hA (by omega)
   have hck:=hc k hlt
   clear hc
   have hs:csumTo xs (k+1)=csWord (csumTo xs k) (xs[k]?.getD 0):=by
    have:k<xs.length:=by rw [HX.out];exact hlt
    rw [csumTo,List.take_succ_eq_append_getElem this,List.foldl_append,List.getElem?_eq_getElem this]
    rfl
   have HS:=Lib.hid hs
   clear hs
   generalize xs[k]?.getD 0=x at *
   generalize csumTo xs k=c0 at *
   go_wp2_with fail
   go_loop [3,6] (fun v i=>∃j:Nat,j≤16∧i = .int .i64 j∧v = .int .i64 (csIter j (bits .xor .i64 c0 (bits .and .i64 x 65535)))) (fun _ i=>16 - (intOf i).toNat)
   case atStart=>exact ⟨0,Nat.zero_le _,rfl,rfl⟩
   case round =>
    obtain ⟨j,hj,rfl,rfl⟩:=hrel
    by_cases hlj:j<16
    ·have hi:=csIter.eq_2 (bits .xor .i64 c0 (bits .and .i64 x 65535)) j
     have HI:=Lib.hid hi
     clear hi
     generalize csIter j (bits .xor .i64 c0 (bits .and .i64 x 65535))=c2 at *
     by_cases ho:(bits .and .i64 c2 1==1)=true
     ·go_wp2
      go_round
      case rel=>exact ⟨j+1,by omega,by go_num,by rw [HI.out,csBit,if_pos ho]⟩
      case measure=>simp [intOf];omega
     ·go_wp2
      go_round
      case rel=>exact ⟨j+1,by omega,by go_num,by rw [HI.out,csBit,if_neg ho]⟩
      case measure=>simp [intOf];omega
    ·obtain rfl:j=16:=by omega
     go_wp2
     go_round
     case rel=>exact ⟨k+1,by omega,by go_num,by rw [HS.out];rfl⟩
     case measure=>simp [intOf];omega
  ·have hkn:k=n:=by omega
   subst hkn
   go_wp2
   go_ret
   exact ⟨ret_int (by rw [csumTo,List.take_of_length_le (by rw [HX.out];exact Nat.le_refl _)];rfl),Below.refl _ _⟩

end Go.Proofs.YtbnfdhidgdfbeaaGreat

namespace Go.Proofs.YtbnfdhidgdfbeaaGreat
set_option maxRecDepth 100000
open Go.RowKit

theorem dataOf_take {f:List Int} {k:Nat} (h:k<f.length):dataOf (f.take (k+1))=dataOf (f.take k)++[dataI (f[k]?.getD 0)]:=by
 unfold dataOf
 rw [List.take_succ_eq_append_getElem h,List.map_append,List.getElem?_eq_getElem h]
 rfl
theorem dataOf_length (f:List Int):(dataOf f).length=f.length:=by simp [dataOf]
theorem dataI_nat {c:Int} {x:Nat} (h:c=(x:Int)):dataI c=((Cw.dataW x:Nat):Int):=by rw [dataI,h,Int.toNat_natCast]
def InCode (f:List Int):Prop:=∀j,j<f.length→0≤f[j]?.getD 0∧f[j]?.getD 0≤4194303
theorem wordsOk_in {f:List Int} {count:Int} (h:wordsOk f count 4194303=true):InCode f∧(f.length:Int)=count:=by
 simp only [wordsOk,Bool.and_eq_true,decide_eq_true_eq] at h
 exact ⟨fun j hj=>allIn_get h.2 hj,h.1⟩
theorem frames_in {d:Dev} {fs:List (List Int)} (h:framesOk d fs=true) {j:Nat} (hj:j<fs.length):InCode (fs[j]?.getD [])∧((fs[j]?.getD []).length:Int)=fwI d:=wordsOk_in ((framesOk_iff h).2.2 j hj)

set_option maxHeartbeats 1000000 in
theorem l40Data_any (A:Option Addr) (n c:Nat) (f:List Int) (w:World) (h:Ints w A n f) (hin:InCode f) (hn:n≤16777216) :
  Calls Tryz.prog 140 #[.slice A n c] w fun e w'=>∃A' c',e = .returned (.slice A' n c')∧Own w.heap.size w' A' n c' (dataOf f)∧Below w.heap.size w w':=by
 obtain ⟨hx,hA⟩:=h
 have HX:=Lib.hid hx
 have HIN:=Lib.hid hin
 clear hx hin
 go_enter Tryz.func140,Tryz.ntmps140
 go_wp2_with fail
 go_loopw [3,4] (fun v i wr=>∃(k:Nat) (A':Option Addr) (c':Nat),k≤n∧i = .int .i64 k∧v = .slice A' k c'∧Own w.heap.size wr A' k c' (dataOf (f.take k))∧Below w.heap.size w wr) (fun _ i _=>n - (intOf i).toNat)
 case atStart=>exact ⟨0,_,0,Nat.zero_le _,rfl,rfl,by simpa [dataOf] using Own.new0 (Nat.le_refl _),below_new (Below.refl _ _) _⟩
 case round =>
  obtain ⟨k,A',c',hk,rfl,rfl,ho,hbe⟩:=hrel
  have HO:=Lib.hid ho
  have HE:=Lib.hid hbe
  clear ho
  by_cases hlt:k<n
  ·obtain ⟨b,o,rfl,hb,hc⟩:=hA (by omega)
   have hck:=hc k hlt
   rw [←hbe.cell (p:=⟨b,o+k,none⟩) hb] at hck
   have hs:=hbe.size
   have hx:=HIN.out k (by rw [HX.out];exact hlt)
   have HT:=Lib.hid (dataOf_take (f:=f) (k:=k) (by rw [HX.out];exact hlt))
   clear hc hbe
   generalize f[k]?.getD 0=x at *
   obtain ⟨x,rfl⟩:=Int.eq_ofNat_of_zero_le hx.1
   have HD:=Lib.hid (dataI_nat (c:=(x:Int)) rfl)
   go_wp2_with (first
    | ((with_reducible refine (sdataBits_any x _ (by omega)).mono ?_);rintro e w' ⟨rfl,rfl⟩)
    | (at_builtin;refine wpList_push rfl _ _ rfl w.heap.size A' k c' (dataOf (f.take k)) _ rfl HO.out rfl (by omega) hs HE.out ?_;rintro g4 cap w4 o4 b4 gr4 hat4))
   go_roundw
   case rel=>exact ⟨k+1,_,_,by omega,by go_num,rfl,by rw [HT.out,HD.out];exact o4,b4⟩
   case measure=>simp [intOf];omega
  ·have hkn:k=n:=by omega
   subst hkn
   go_wp2_with fail
   go_ret
   exact ⟨_,_,rfl,by have:=HO.out;rwa [List.take_of_length_le (by rw [HX.out];exact Nat.le_refl _)] at this,HE.out⟩

def tilesIn (fs:List (List Int)) (ts:List Int):Bool:=(List.range ts.length).all fun j=>inR (ts[j]?.getD 0) 0 ((fs.length:Int) - 1)
theorem tilesIn_bad {fs:List (List Int)} {ts:List Int} {k:Nat} (hk:k<ts.length) (h:inR (ts[k]?.getD 0) 0 ((fs.length:Int) - 1)=false):tilesIn fs ts=false:=by
 cases hs:tilesIn fs ts with
 | false=>rfl
 | true =>
  simp only [tilesIn,List.all_eq_true,List.mem_range] at hs
  rw [hs k hk] at h
  cases h
theorem tilesIn_good {fs:List (List Int)} {ts:List Int} (h:∀j,j<ts.length→inR (ts[j]?.getD 0) 0 ((fs.length:Int) - 1)=true):tilesIn fs ts=true:=by
 simp only [tilesIn,List.all_eq_true,List.mem_range]
 exact h
def fcsum (d:Dev) (fs:List (List Int)) (ts:List Int):Int:=if (framesOk d fs && tilesIn fs ts)=true then csum (wordsTo fs ts ts.length) else -1

set_option maxHeartbeats 2000000 in
theorem frameChecksum_any (d:Dev) (A:Option Addr) (n c:Nat) (fs:List (List Int)) (T:Option Addr) (m c1:Nat) (ts:List Int) (w:World) (hA:Rows2 w A n fs) (hT:Ints w T m ts) (hz:size2 fs≤1099511627776) (hm:m≤16777216) :
  Calls Tryz.prog 27 #[.agg #[.int .i64 d.W,.int .i64 d.H,.int .i64 d.T,.int .i64 d.R],.slice A n c,.slice T m c1] w fun e w'=>e = .returned (.int .i64 (fcsum d fs ts))∧Below w.heap.size w w':=by
 have hB0:Below w.heap.size w (w.alloc (.cells #[.int .i64 d.W,.int .i64 d.H,.int .i64 d.T,.int .i64 d.R] 25)):=below_new (Below.refl _ _) _
 have hX:=hA.1
 obtain ⟨hn,hrow⟩:=size2_bd hX hz
 have HX:=Lib.hid hX
 have HI:=Lib.hid hA
 have HJ:=Lib.hid hT
 have hY:=hT.1
 have HY:=Lib.hid hY
 clear hA hX hT hY hrow
 go_enter Tryz.func27,Tryz.ntmps27
 go_wp2_with fail
 refine (framesOk_any d A n c fs _ (HI.out.below hB0) hz).mono ?_
 rintro e w1 ⟨rfl,b1⟩
 have hs1:=b1.size
 simp only [World.size_alloc] at hs1
 have B1:=Lib.hid (below_tr hB0 b1)
 clear b1
 cases hf:framesOk d fs with
 | false =>
  have HF:=Lib.hid hf
  clear hf
  go_wp2_with fail
  go_ret
  exact ⟨ret_int (by rw [fcsum,HF.out];simp),B1.out⟩
 | true =>
  have hfb:=fwI_bd (framesOk_iff hf).1
  obtain ⟨F,hF⟩:∃F:Nat,fwI d=(F:Int):=⟨(fwI d).toNat,by omega⟩
  rw [hF] at hfb
  have HFW:=Lib.hid hF
  have HF:=Lib.hid hf
  clear hf hF
  go_wp2_with fail
  obtain ⟨_,hAr⟩:=HI.out.below B1.out
  obtain ⟨_,hTr⟩:=HJ.out.below B1.out
  go_loopw [7,18] (fun v i wr=>∃(k:Nat) (A':Option Addr) (l c':Nat),k≤m∧i = .int .i64 k∧v = .slice A' l c'∧l≤11 * k∧Own w1.heap.size wr A' l c' (wordsTo fs ts k)∧Below w1.heap.size w1 wr∧∀j,j<k→inR (ts[j]?.getD 0) 0 ((n:Int) - 1)=true) (fun _ i _=>m - (intOf i).toNat)
  case atStart=>exact ⟨0,none,0,0,Nat.zero_le _,rfl,rfl,Nat.zero_le _,Own.nil,Below.refl _ _,by intro j hj;omega⟩
  case round =>
   obtain ⟨k,A',l,c',hk,rfl,rfl,hl,ho,hbe,hall⟩:=hrel
   have HO:=Lib.hid ho
   have HE:=Lib.hid hbe
   have HALL:=Lib.hid hall
   clear ho hall
   by_cases hlt:k<m
   ·obtain ⟨b,o,rfl,hb,hc⟩:=hTr (by omega)
    have hck:=hc k hlt
    rw [←hbe.cell (p:=⟨b,o+k,none⟩) hb] at hck
    have HBD:Hid (inR (ts[k]?.getD 0) 0 ((n:Int) - 1)=false→tilesIn fs ts=false):=fun h=>tilesIn_bad (by rw [HY.out];exact hlt) (by rw [HX.out];exact h)
    have HG:Hid (inR (ts[k]?.getD 0) 0 ((n:Int) - 1)=true→∀j,j<k+1→inR (ts[j]?.getD 0) 0 ((n:Int) - 1)=true):=fun h=>all_succ HALL.out h
    have HW:=Lib.hid (wordsTo.eq_2 fs ts k)
    clear hc hbe
    generalize ts[k]?.getD 0=t at *
    cases hin:inR t 0 ((n:Int) - 1) with
    | false =>
     have HB':=Lib.hid (HBD.out hin)
     clear HG HBD
     go_wp2_with (go_at_call 68;refine (inRange_any _ _ _ _).mono ?_;rintro e w' ⟨rfl,rfl⟩)
     go_ret
     exact ⟨ret_int (by rw [fcsum,HF.out,HB'.out];simp),below_tr B1.out HE.out⟩
    | true =>
     have HG':=Lib.hid (HG.out hin)
     have htb:=inR_iff.1 hin
     clear HG HBD
     obtain ⟨b2,o2,rfl,hb2,hc2⟩:=hAr (by omega)
     obtain ⟨A1,m1,c3,hck2,hI1⟩:=hc2 t.toNat (by omega)
     rw [←HE.out.cell (p:=⟨b2,o2+t.toNat,none⟩) hb2] at hck2
     have hfr:=frames_in HF.out (j:=t.toNat) (by rw [HX.out];omega)
     have hm1:m1=F:=by have:=hfr.2;rw [hI1.1,HFW.out] at this;omega
     obtain ⟨hxf,hAf⟩:=hI1
     have HXF:=Lib.hid hxf
     have HIN:=Lib.hid hfr.1
     subst hm1
     clear hc2 hxf hfr
     generalize fs[t.toNat]?.getD []=f at *
     go_wp2_with (go_at_call 68;refine (inRange_any _ _ _ _).mono ?_;rintro e w' ⟨rfl,rfl⟩)
     clear hck hck2
     go_loopw [7,33] (fun v i wr=>∃(j:Nat) (A':Option Addr) (l' c':Nat),j≤m1∧i = .int .i64 j∧v = .slice A' l' c'∧l'=l+j∧Own w1.heap.size wr A' l' c' (wordsTo fs ts k++dataOf (f.take j))∧Below w1.heap.size w1 wr) (fun _ i _=>m1 - (intOf i).toNat)
     case atStart=>exact ⟨0,_,_,_,Nat.zero_le _,rfl,rfl,rfl,by simpa [dataOf] using HO.out,HE.out⟩
     case round =>
      obtain ⟨j,A2,l2,c2,hj,rfl,rfl,hl2,ho2,hbe2⟩:=hrel
      have HL2:=Lib.hid hl2
      have hl2':l2≤11 * k+m1:=by omega
      have HO2:=Lib.hid ho2
      have HE2:=Lib.hid hbe2
      have hs2:=hbe2.size
      clear ho2 hl2
      by_cases hlj:j<m1
      ·obtain ⟨b3,o3,rfl,hb3,hc3⟩:=hAf (by omega)
       have hck3:=hc3 j hlj
       rw [←hbe2.cell (p:=⟨b3,o3+j,none⟩) hb3] at hck3
       have hx:=HIN.out j (by rw [HXF.out];exact hlj)
       have HT:=Lib.hid (dataOf_take (f:=f) (k:=j) (by rw [HXF.out];exact hlj))
       clear hc3 hbe2
       generalize f[j]?.getD 0=x at *
       obtain ⟨x,rfl⟩:=Int.eq_ofNat_of_zero_le hx.1
       have HD:=Lib.hid (dataI_nat (c:=(x:Int)) rfl)
       go_wp2_with (first
        | ((with_reducible refine (dataBits_any x _ (by omega)).mono ?_);rintro e w' ⟨rfl,rfl⟩)
        | (at_builtin;refine wpList_push rfl _ _ rfl w1.heap.size A2 l2 c2 (wordsTo fs ts k++dataOf (f.take j)) _ rfl HO2.out rfl (by omega) hs2 HE2.out ?_;rintro g4 cap w4 o4 b4 gr4 hat4))
       go_roundw
       case rel=>exact ⟨j+1,_,_,_,by omega,by go_num,rfl,by have:=HL2.out;omega,by rw [HT.out,HD.out,←List.append_assoc];exact o4,b4⟩
       case measure=>simp [intOf];omega
      ·have hjn:j=m1:=by omega
       subst hjn
       go_wp2_with fail
       go_roundw
       case rel=>exact ⟨k+1,_,_,_,by omega,by go_num,rfl,by have:=HL2.out;omega,by rw [HW.out];have:=HO2.out;rwa [List.take_of_length_le (by rw [HXF.out];exact Nat.le_refl _)] at this,HE2.out,HG'.out⟩
       case measure=>simp [intOf];omega
   ·have hkm:k=m:=by omega
    subst hkm
    go_wp2_with fail
    refine (checksum_any A' l c' _ _ HO.out.ints (by omega)).mono ?_
    rintro e w2 ⟨rfl,b2⟩
    go_wp2_with fail
    go_ret
    exact ⟨ret_int (by rw [fcsum,HF.out,tilesIn_good (by rw [HY.out,HX.out];exact HALL.out),HY.out];simp),below_tr (below_tr B1.out HE.out) b2⟩
end Go.Proofs.YtbnfdhidgdfbeaaGreat
