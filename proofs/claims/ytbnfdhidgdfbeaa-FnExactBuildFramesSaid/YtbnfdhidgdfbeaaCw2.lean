/- Codewords: the walks of the program's and the reference's functions. Codewords: decoding, repairing, distances. -/
import Derived.Test.YtbnfdhidgdfbeaaBit
import Derived.Test.YtbnfdhidgdfbeaaCwPure
import Derived.Test.YtbnfdhidgdfbeaaHar
namespace Go.Proofs.Ytbnfdhidgdfbeaa
set_option maxRecDepth 100000
open Go.RowKit Cw

theorem and_one_nat (x:Nat) (h:x<9223372036854775808):bits .and .i64 (x:Int) 1=((x % 2:Nat):Int):=by
 have:=i64_and_nat x 1 h (by omega)
 rw [Nat.and_one_is_mod] at this
 exact this
theorem shr_bit (c i:Nat) (h:c<9223372036854775808):bits .and .i64 ((c:Int) / 2 ^ i) 1=((bit c i:Nat):Int):=by
 have e:((c:Int) / 2 ^ i)=((c / 2 ^ i:Nat):Int):=by rw [Int.natCast_ediv];simp
 rw [e,and_one_nat _ (Nat.lt_of_le_of_lt (Nat.div_le_self _ _) h)]
 rfl

set_option maxHeartbeats 400000 in
theorem isCheck_any (p:Nat) (w:World) (h0:1≤p) (h1:p≤1000) :
  Calls Try.prog 125 #[.int .i64 p] w fun e w'=>e = .returned (.bool (isP p))∧w=w':=by
 have hb:bits .and .i64 (p:Int) ((p:Int) - 1)=((p &&& (p - 1):Nat):Int):=by
  rw [←i64_and_nat p (p - 1) (by omega) (by omega)]
  congr 1
  omega
 go_enter Try.func125,Try.ntmps125
 go_wp2
 go_ret
 exact ⟨ret_bool (by unfold isP;cases h:(p &&& (p - 1))==0 <;> simp_all),rfl⟩

set_option maxHeartbeats 1000000 in
theorem syndrome_any (c : Nat) (w : World) (h : c < 4194304) :
    Calls Try.prog 126 #[.int .i64 c] w fun e w' => e = .returned (.int .i64 (synW c)) ∧ w = w' := by
  go_enter Try.func126, Try.ntmps126
  go_wp2_with fail
  go_loop [3, 4] (fun v p => ∃ i : Nat, i ≤ 21 ∧ p = .int .i64 ((i : Int) + 1) ∧ v = .int .i64 (synTo c i)) (fun _ p => 22 - (intOf p).toNat)
  case atStart => exact ⟨0, by omega, rfl, rfl⟩
  case round =>
    obtain ⟨i, hi, rfl, rfl⟩ := hrel
    by_cases hlt : i < 21
    · have hs := synTo.eq_2 c i
      have hlo := synTo_lt c i (by omega)
      have hsb := shr_bit c i (by omega)
      have HS := Lib.hid hs
      clear hs
      have hx := i64_xor_nat (synTo c i) (i + 1) (by omega) (by omega)
      have HXR := Lib.hid hx
      clear hx
      go_wp2_with fail
      · have hb : bit c i = 1 := by have : ((bit c i : Nat) : Int) = 1 := by simpa using ‹(((bit c i : Nat) : Int) == 1) = true›
                                    omega
        go_round
        case rel => exact ⟨i + 1, by omega, by go_num, by rw [HS.out, if_pos hb, ← HXR.out]; simp⟩
        case measure => simp [intOf]; omega
      · have hb : ¬ bit c i = 1 := by have : ¬ ((bit c i : Nat) : Int) = 1 := by simpa using ‹(((bit c i : Nat) : Int) == 1) = false›
                                      omega
        go_round
        case rel => exact ⟨i + 1, by omega, by go_num, by rw [HS.out, if_neg hb]⟩
        case measure => simp [intOf]; omega
    · obtain rfl : i = 21 := by omega
      go_wp2_with fail
      go_ret
      exact ⟨rfl, rfl⟩
set_option maxHeartbeats 1000000 in
theorem ssyndrome_any (c : Nat) (w : World) (h : c < 4194304) :
    Calls Try.prog 90 #[.int .i64 c] w fun e w' => e = .returned (.int .i64 (synW c)) ∧ w = w' := by
  have hr : inR (c : Int) 0 4194303 = true := inR_iff.2 ⟨by omega, by omega⟩
  go_enter Try.func90, Try.ntmps90
  go_wp2_with (go_at_call 85; refine (l01In_any _ _ _ _).mono ?_; rintro e w' ⟨rfl, rfl⟩)
  go_loop [3, 4] (fun v p => ∃ i : Nat, i ≤ 21 ∧ p = .int .i64 ((i : Int) + 1) ∧ v = .int .i64 (synTo c i)) (fun _ p => 22 - (intOf p).toNat)
  case atStart => exact ⟨0, by omega, rfl, rfl⟩
  case round =>
    obtain ⟨i, hi, rfl, rfl⟩ := hrel
    by_cases hlt : i < 21
    · have hs := synTo.eq_2 c i
      have hlo := synTo_lt c i (by omega)
      have hsb := shr_bit c i (by omega)
      have HS := Lib.hid hs
      clear hs
      have hx := i64_xor_nat (synTo c i) (i + 1) (by omega) (by omega)
      have HXR := Lib.hid hx
      clear hx
      go_wp2_with fail
      · have hb : bit c i = 1 := by have : ((bit c i : Nat) : Int) = 1 := by simpa using ‹(((bit c i : Nat) : Int) == 1) = true›
                                    omega
        go_round
        case rel => exact ⟨i + 1, by omega, by go_num, by rw [HS.out, if_pos hb, ← HXR.out]; simp⟩
        case measure => simp [intOf]; omega
      · have hb : ¬ bit c i = 1 := by have : ¬ ((bit c i : Nat) : Int) = 1 := by simpa using ‹(((bit c i : Nat) : Int) == 1) = false›
                                      omega
        go_round
        case rel => exact ⟨i + 1, by omega, by go_num, by rw [HS.out, if_neg hb]⟩
        case measure => simp [intOf]; omega
    · obtain rfl : i = 21 := by omega
      go_wp2_with fail
      go_ret
      exact ⟨rfl, rfl⟩

theorem isCheckS_any (p:Nat) (w:World) (h0:1≤p) (h1:p≤1000) :
  Calls Try.prog 89 #[.int .i64 p] w fun e w'=>e = .returned (.bool (isP p))∧w=w':=by
 have hb:bits .and .i64 (p:Int) ((p:Int) - 1)=((p &&& (p - 1):Nat):Int):=by
  rw [←i64_and_nat p (p - 1) (by omega) (by omega)]
  congr 1
  omega
 go_enter Try.func89,Try.ntmps89
 go_wp2
 go_ret
 exact ⟨ret_bool (by unfold isP;cases h:(p &&& (p - 1))==0 <;> simp_all),rfl⟩

theorem wrap_bit {b k:Nat} (hb:b≤1) (hk:k≤61):wrap64 ((b:Int) * 2 ^ k)=((b * 2 ^ k:Nat):Int):=by
 have hp:=pow_le63 (show k≤62 by omega)
 rw [int_pow_cast]
 generalize 2 ^ k=p at *
 rw [←Int.natCast_mul]
 have:b * p≤p:=by
  rcases Nat.lt_or_ge 0 b with h|h
  ·obtain rfl:b=1:=by omega
   omega
  ·obtain rfl:b=0:=by omega
   omega
 exact IntWalk.wrap64_in _ ⟨by omega,by omega⟩
theorem or_bit {a b k:Nat} (ha:a<2 ^ k) (hb:b≤1) (hk:k≤61):bits .or .i64 (a:Int) (wrap64 ((b:Int) * 2 ^ k))=((a+b * 2 ^ k:Nat):Int):=by
 rw [wrap_bit hb hk]
 have hp:=pow_le63 (show k≤62 by omega)
 rcases Nat.lt_or_ge 0 b with h|h
 ·obtain rfl:b=1:=by omega
  rw [Nat.one_mul,i64_or_nat a (2 ^ k) (by omega) hp,or_pow a k ha]
 ·obtain rfl:b=0:=by omega
  rw [Nat.zero_mul,i64_or_nat a 0 (by omega) (by omega),Nat.or_zero,Nat.add_zero]
theorem add_bit {a b k:Nat} (ha:a<2 ^ k) (hb:b≤1) (hk:k≤60):wrap64 ((a:Int)+wrap64 ((b:Int) * 2 ^ k))=((a+b * 2 ^ k:Nat):Int):=by
 rw [wrap_bit hb (by omega)]
 have h1:=add_pow_lt ha hb
 have h2:=pow_le63 (show k+1≤62 by omega)
 rw [←Int.natCast_add]
 generalize a+b * 2 ^ k=q at *
 exact IntWalk.wrap64_in _ ⟨by omega,by omega⟩

/-! ### counting ones -/
theorem popTo_stop {c k m : Nat} (h : c / 2 ^ k = 0) (hk : k ≤ m) : popTo c m = popTo c k := by
  induction m with
  | zero => obtain rfl : k = 0 := by omega
            rfl
  | succ m ih =>
    rcases Nat.lt_or_ge m k with h1 | h1
    · obtain rfl : k = m + 1 := by omega
      rfl
    · rw [popTo, ih h1, bit, Nat.div_eq_of_lt]
      · simp
      · have h2 : c < 2 ^ k := by
          rcases Nat.lt_or_ge c (2 ^ k) with h3 | h3
          · exact h3
          · have := Nat.div_pos h3 (Nat.two_pow_pos k)
            omega
        exact Nat.lt_of_lt_of_le h2 (Nat.pow_le_pow_right (by omega) h1)

set_option maxHeartbeats 1000000 in
theorem bitCount_any (c:Nat) (w:World) (h:c<4194304) :
  Calls Try.prog 127 #[.int .i64 c] w fun e w'=>e = .returned (.int .i64 (onesW c))∧w=w':=by
 go_enter Try.func127,Try.ntmps127
 go_wp2_with fail
 go_loop [0,3] (fun n v=>∃k:Nat,k≤22∧n = .int .i64 ((c / 2 ^ k:Nat):Int)∧v = .int .i64 (popTo c k)) (fun n _=>(intOf n).toNat)
 case atStart=>exact ⟨0,by omega,by simp,rfl⟩
 case round =>
  obtain ⟨k,hk,rfl,rfl⟩:=hrel
  have hle:c / 2 ^ k≤c:=Nat.div_le_self _ _
  have hand:=and_one_nat (c / 2 ^ k) (by omega)
  have hpl:=popTo_le c k
  have hst:=popTo_stop (c:=c) (k:=k) (m:=22)
  have HST:=Lib.hid hst
  have hs:=popTo.eq_2 c k
  have HS:=Lib.hid hs
  have hbd:bit c k=c / 2 ^ k % 2:=rfl
  have HBD:=Lib.hid hbd
  have hdv:c / 2 ^ (k+1)=c / 2 ^ k / 2:=by rw [Nat.pow_succ,Nat.div_div_eq_div_mul]
  have HDV:=Lib.hid hdv
  have hbig:¬k<22→c / 2 ^ k=0:=fun hk'=>by
   obtain rfl:k=22:=by omega
   exact Nat.div_eq_of_lt h
  have HBIG:=Lib.hid hbig
  clear hst hs hbd hdv hbig
  generalize c / 2 ^ k=q at *
  by_cases hq:0<q
  ·have hk22:k<22:=by
    rcases Nat.lt_or_ge k 22 with h1|h1
    ·exact h1
    ·have:=HBIG.out (by omega);omega
   go_wp2_with fail
   go_round
   case rel=>exact ⟨k+1,by omega,by rw [HDV.out];simp,by rw [HS.out,HBD.out];simp⟩
   case measure=>simp [intOf];omega
  ·obtain rfl:q=0:=by omega
   go_wp2_with fail
   go_ret
   exact ⟨ret_int (by rw [onesW,HST.out (by first|trivial|rfl) hk]),rfl⟩

set_option maxHeartbeats 1000000 in
theorem sOnes_any (c:Nat) (w:World) (h:c<4194304) :
  Calls Try.prog 91 #[.int .i64 c] w fun e w'=>e = .returned (.int .i64 (onesW c))∧w=w':=by
 go_enter Try.func91,Try.ntmps91
 go_wp2_with fail
 go_loop [3,4] (fun v i=>∃k:Nat,k≤22∧i = .int .i64 k∧v = .int .i64 (popTo c k)) (fun _ i=>22 - (intOf i).toNat)
 case atStart=>exact ⟨0,by omega,rfl,rfl⟩
 case round =>
  obtain ⟨k,hk,rfl,rfl⟩:=hrel
  have hpl:=popTo_le c k
  have hbl:=bit_le c k
  have hsb:=shr_bit c k (by omega)
  have hs:=popTo.eq_2 c k
  have HS:=Lib.hid hs
  clear hs
  by_cases hlt:k<22
  ·go_wp2_with fail
   go_round
   case rel=>exact ⟨k+1,by omega,by go_num,by rw [HS.out];simp⟩
   case measure=>simp [intOf];omega
  ·obtain rfl:k=22:=by omega
   go_wp2_with fail
   go_ret
   exact ⟨rfl,rfl⟩

/-! ### encoding -/
theorem bit_and_pow (s j:Nat):s &&& 2 ^ j=bit s j * 2 ^ j:=Go.nat_bit j s

set_option maxHeartbeats 2000000 in
theorem encodeWord_any (x:Nat) (w:World) (h:x<65536) :
  Calls Try.prog 96 #[.int .i64 x] w fun e w'=>e = .returned (.int .i64 (encW x))∧w=w':=by
 have hr:inR (x:Int) 0 65535=true:=inR_iff.2 ⟨by omega,by omega⟩
 go_enter Try.func96,Try.ntmps96
 go_wp2_with (go_at_call 57;refine (inRange_any _ _ _ _).mono ?_;rintro e w' ⟨rfl,rfl⟩)
 go_loop [3,4,5] (fun v k p=>∃i:Nat,i≤21∧p = .int .i64 ((i:Int)+1)∧k = .int .i64 (kTo i)∧v = .int .i64 (spreadTo x i)) (fun _ _ p=>22 - (intOf p).toNat)
 case atStart=>exact ⟨0,by omega,rfl,rfl,rfl⟩
 case round =>
  obtain ⟨i,hi,rfl,rfl,rfl⟩:=hrel
  by_cases hlt:i<21
  ·skip
   have hs:=spreadTo.eq_2 x i
   have hk:=kTo.eq_2 i
   have hlo:=spreadTo_lt x i
   have hkl:=kTo_le i
   have hsb:=shr_bit x (kTo i) (by omega)
   have hor:=or_bit hlo (bit_le x (kTo i)) (show i≤61 by omega)
   have hadd:=add_bit hlo (bit_le x (kTo i)) (show i≤60 by omega)
   have HS:=Lib.hid hs
   have HK:=Lib.hid hk
   have HOR:=Lib.hid hor
   have HADD:=Lib.hid hadd
   clear hs hk hlo hor hadd
   have hcp:=isCheck_any (i+1)
   simp only [Int.natCast_add,Int.natCast_one] at hcp
   have HCP:=Lib.hid hcp
   clear hcp
   cases hp:isP (i+1) with
   | true =>
    have HP:=Lib.hid hp
    go_wp2_with (go_at_call 125;refine (HCP.out _ (by omega) (by omega)).mono ?_;rintro e w' ⟨rfl,rfl⟩)
    go_round
    case rel=>exact ⟨i+1,by omega,by go_num,by rw [HK.out,HP.out];simp,by rw [HS.out,HP.out];simp⟩
    case measure=>simp [intOf];omega
   | false =>
    have HP:=Lib.hid hp
    go_wp2_with (go_at_call 125;refine (HCP.out _ (by omega) (by omega)).mono ?_;rintro e w' ⟨rfl,rfl⟩)
    go_round
    case rel=>exact ⟨i+1,by omega,by go_num,by rw [HK.out,HP.out];simp,by rw [HS.out,HP.out];(first|rw [HOR.out]|rw [HADD.out]);simp⟩
    case measure=>simp [intOf];omega
  ·obtain rfl:i=21:=by omega
   have hsp:=spreadTo_lt x 21
   have hsl:=synTo_lt (spreadTo x 21) 21 (by omega)
   have hcl:=fun j hj=>chk_lt (s:=synW (spreadTo x 21)) hsp j hj
   have HCL:=Lib.hid hcl
   have hC:=fun j=>chkTo.eq_2 (spreadTo x 21) (synW (spreadTo x 21)) j
   have HC:=Lib.hid hC
   have hE:encW x=chkTo (spreadTo x 21) (synW (spreadTo x 21)) 5+onesW (chkTo (spreadTo x 21) (synW (spreadTo x 21)) 5) % 2 * 2 ^ 21:=rfl
   have HE:=Lib.hid hE
   clear hcl hC hE
   go_wp2_with (go_at_call 126;refine (syndrome_any _ _ (by omega)).mono ?_;rintro e w' ⟨rfl,rfl⟩)
   have hs5:synW (spreadTo x 21)<32:=hsl
   clear hsl
   generalize synW (spreadTo x 21)=s at *
   have h0:chkTo (spreadTo x 21) s 0=spreadTo x 21:=rfl
   have H0:=Lib.hid h0
   clear h0
   go_loop [3,7] (fun v p=>∃j:Nat,j≤5∧p = .int .i64 ((2 ^ j:Nat):Int)∧v = .int .i64 (chkTo (spreadTo x 21) s j)) (fun _ p=>33 - (intOf p).toNat)
   case atStart=>exact ⟨0,by omega,rfl,by rw [H0.out]⟩
   case round =>
    obtain ⟨j,hj,rfl,rfl⟩:=hrel
    have hlt:=HCL.out j hj
    have hCj:=HC.out j
    have hbl:=bit_le s j
    have hand:=i64_and_nat s (2 ^ j) (by omega) (pow_le63 (show j≤62 by omega))
    rw [bit_and_pow] at hand
    have HCJ:=Lib.hid hCj
    generalize ho:chkTo (spreadTo x 21) s j=o at *
    have HO:=Lib.hid ho
    clear ho
    generalize hbv:bit s j=bv at *
    have HBV:=Lib.hid hbv
    clear hCj hbv
    rcases (by omega:j=0∨j=1∨j=2∨j=3∨j=4∨j=5) with rfl|rfl|rfl|rfl|rfl|rfl
    ·rcases (by omega:bv=0∨bv=1) with rfl|rfl
     ·simp at hand
      go_wp2_with fail
      go_round
      case rel=>exact ⟨1,by omega,by simp,by rw [HCJ.out];simp⟩
      case measure=>simp [intOf]
     ·simp at hand
      go_wp2_with fail
      go_round
      case rel=>exact ⟨1,by omega,by simp,congrArg (Value.int .i64) ((i64_or_nat o 1 (by omega) (by omega)).trans (by rw [HCJ.out]))⟩
      case measure=>simp [intOf]
    ·rcases (by omega:bv=0∨bv=1) with rfl|rfl
     ·simp at hand
      go_wp2_with fail
      go_round
      case rel=>exact ⟨2,by omega,by simp,by rw [HCJ.out];simp⟩
      case measure=>simp [intOf]
     ·simp at hand
      go_wp2_with fail
      go_round
      case rel=>exact ⟨2,by omega,by simp,congrArg (Value.int .i64) ((i64_or_nat o 2 (by omega) (by omega)).trans (by rw [HCJ.out]))⟩
      case measure=>simp [intOf]
    ·rcases (by omega:bv=0∨bv=1) with rfl|rfl
     ·simp at hand
      go_wp2_with fail
      go_round
      case rel=>exact ⟨3,by omega,by simp,by rw [HCJ.out];simp⟩
      case measure=>simp [intOf]
     ·simp at hand
      go_wp2_with fail
      go_round
      case rel=>exact ⟨3,by omega,by simp,congrArg (Value.int .i64) ((i64_or_nat o 8 (by omega) (by omega)).trans (by rw [HCJ.out]))⟩
      case measure=>simp [intOf]
    ·rcases (by omega:bv=0∨bv=1) with rfl|rfl
     ·simp at hand
      go_wp2_with fail
      go_round
      case rel=>exact ⟨4,by omega,by simp,by rw [HCJ.out];simp⟩
      case measure=>simp [intOf]
     ·simp at hand
      go_wp2_with fail
      go_round
      case rel=>exact ⟨4,by omega,by simp,congrArg (Value.int .i64) ((i64_or_nat o 128 (by omega) (by omega)).trans (by rw [HCJ.out]))⟩
      case measure=>simp [intOf]
    ·rcases (by omega:bv=0∨bv=1) with rfl|rfl
     ·simp at hand
      go_wp2_with fail
      go_round
      case rel=>exact ⟨5,by omega,by simp,by rw [HCJ.out];simp⟩
      case measure=>simp [intOf]
     ·simp at hand
      go_wp2_with fail
      go_round
      case rel=>exact ⟨5,by omega,by simp,congrArg (Value.int .i64) ((i64_or_nat o 32768 (by omega) (by omega)).trans (by rw [HCJ.out]))⟩
      case measure=>simp [intOf]
    ·have hpl:=popTo_le o 22
     have hpl':onesW o≤22:=hpl
     have hmod:=and_one_nat (onesW o) (by omega)
     have hm2:onesW o % 2≤1:=by omega
     have hfin:=or_bit (k:=21) hlt hm2 (by omega)
     rw [wrap_bit hm2 (by omega)] at hfin
     have HFIN:=Lib.hid hfin
     clear hfin hand HCL HC H0 HCJ HBV hpl
     go_wp2_with (go_at_call 127;refine (bitCount_any _ _ (by omega)).mono ?_;rintro e w' ⟨rfl,rfl⟩)
     go_ret
     refine ⟨ret_int ?_,rfl⟩
     rw [HE.out,HO.out,←HFIN.out]
     rfl
set_option maxHeartbeats 2000000 in
theorem sencodeWord_any (x:Nat) (w:World) (h:x<65536) :
  Calls Try.prog 44 #[.int .i64 x] w fun e w'=>e = .returned (.int .i64 (encW x))∧Below w.heap.size w w':=by
 have hr:inR (x:Int) 0 65535=true:=inR_iff.2 ⟨by omega,by omega⟩
 go_enter Try.func44,Try.ntmps44
 go_wp2_with (go_at_call 85;refine (l01In_any _ _ _ _).mono ?_;rintro e w' ⟨rfl,rfl⟩)
 go_loop [3,4,5] (fun v k p=>∃i:Nat,i≤21∧p = .int .i64 ((i:Int)+1)∧k = .int .i64 (kTo i)∧v = .int .i64 (spreadTo x i)) (fun _ _ p=>22 - (intOf p).toNat)
 case atStart=>exact ⟨0,by omega,rfl,rfl,rfl⟩
 case round =>
  obtain ⟨i,hi,rfl,rfl,rfl⟩:=hrel
  by_cases hlt:i<21
  ·skip
   have hs:=spreadTo.eq_2 x i
   have hk:=kTo.eq_2 i
   have hlo:=spreadTo_lt x i
   have hkl:=kTo_le i
   have hsb:=shr_bit x (kTo i) (by omega)
   have hor:=or_bit hlo (bit_le x (kTo i)) (show i≤61 by omega)
   have hadd:=add_bit hlo (bit_le x (kTo i)) (show i≤60 by omega)
   have HS:=Lib.hid hs
   have HK:=Lib.hid hk
   have HOR:=Lib.hid hor
   have HADD:=Lib.hid hadd
   clear hs hk hlo hor hadd
   have hcp:=isCheckS_any (i+1)
   simp only [Int.natCast_add,Int.natCast_one] at hcp
   have HCP:=Lib.hid hcp
   clear hcp
   cases hp:isP (i+1) with
   | true =>
    have HP:=Lib.hid hp
    go_wp2_with (go_at_call 89;refine (HCP.out _ (by omega) (by omega)).mono ?_;rintro e w' ⟨rfl,rfl⟩)
    go_round
    case rel=>exact ⟨i+1,by omega,by go_num,by rw [HK.out,HP.out];simp,by rw [HS.out,HP.out];simp⟩
    case measure=>simp [intOf];omega
   | false =>
    have HP:=Lib.hid hp
    go_wp2_with (go_at_call 89;refine (HCP.out _ (by omega) (by omega)).mono ?_;rintro e w' ⟨rfl,rfl⟩)
    go_round
    case rel=>exact ⟨i+1,by omega,by go_num,by rw [HK.out,HP.out];simp,by rw [HS.out,HP.out];(first|rw [HOR.out]|rw [HADD.out]);simp⟩
    case measure=>simp [intOf];omega
  ·obtain rfl:i=21:=by omega
   have hsp:=spreadTo_lt x 21
   have hsl:=synTo_lt (spreadTo x 21) 21 (by omega)
   have hcl:=fun j hj=>chk_lt (s:=synW (spreadTo x 21)) hsp j hj
   have HCL:=Lib.hid hcl
   have hC:=fun j=>chkTo.eq_2 (spreadTo x 21) (synW (spreadTo x 21)) j
   have HC:=Lib.hid hC
   have hE:encW x=chkTo (spreadTo x 21) (synW (spreadTo x 21)) 5+onesW (chkTo (spreadTo x 21) (synW (spreadTo x 21)) 5) % 2 * 2 ^ 21:=rfl
   have HE:=Lib.hid hE
   clear hcl hC hE
   go_wp2_with (go_at_call 90;refine (ssyndrome_any _ _ (by omega)).mono ?_;rintro e w' ⟨rfl,rfl⟩)
   have hs5:synW (spreadTo x 21)<32:=hsl
   clear hsl
   generalize synW (spreadTo x 21)=s at *
   have h0:chkTo (spreadTo x 21) s 0=spreadTo x 21:=rfl
   have H0:=Lib.hid h0
   clear h0
   go_loopw [3,7] (fun v p wr=>∃j nq:Nat,j≤5∧p = .int .i64 (j:Int)∧v = .int .i64 (chkTo (spreadTo x 21) s j)∧wr=w.drewN nq) (fun _ p _=>6 - (intOf p).toNat)
   case atStart=>exact ⟨0,0,by omega,rfl,by rw [H0.out],rfl⟩
   case round =>
    obtain ⟨j,nq,hj,rfl,rfl,rfl⟩:=hrel
    have hlt:=HCL.out j hj
    have hCj:j<5→chkTo (spreadTo x 21) s j+bit s j * 2 ^ (2 ^ j - 1)=chkTo (spreadTo x 21) s (j+1):=chk_add x s j
    have hbl:=bit_le s j
    have hand:=shr_bit s j (by omega)
    have HCJ:=Lib.hid hCj
    generalize ho:chkTo (spreadTo x 21) s j=o at *
    have HO:=Lib.hid ho
    clear ho
    generalize hbv:bit s j=bv at *
    have HBV:=Lib.hid hbv
    clear hCj hbv
    rcases (by omega:j=0∨j=1∨j=2∨j=3∨j=4∨j=5) with rfl|rfl|rfl|rfl|rfl|rfl
    ·rcases (by omega:bv=0∨bv=1) with rfl|rfl
     ·simp at hand
      go_wp2_with fail
      go_quiet (fail)
      go_wp2_with fail
      go_roundw
      case rel=>exact ⟨1,_,by omega,by simp,by rw [←HCJ.out (by omega)];simp,rfl⟩
      case measure=>simp [intOf]
     ·simp at hand
      go_wp2_with fail
      go_quiet (fail)
      go_wp2_with fail
      go_roundw
      case rel=>exact ⟨1,_,by omega,by simp,by rw [←HCJ.out (by omega)];simp,rfl⟩
      case measure=>simp [intOf]
    ·rcases (by omega:bv=0∨bv=1) with rfl|rfl
     ·simp at hand
      go_wp2_with fail
      go_quiet (fail)
      go_wp2_with fail
      go_roundw
      case rel=>exact ⟨2,_,by omega,by simp,by rw [←HCJ.out (by omega)];simp,rfl⟩
      case measure=>simp [intOf]
     ·simp at hand
      go_wp2_with fail
      go_quiet (fail)
      go_wp2_with fail
      go_roundw
      case rel=>exact ⟨2,_,by omega,by simp,by rw [←HCJ.out (by omega)];simp,rfl⟩
      case measure=>simp [intOf]
    ·rcases (by omega:bv=0∨bv=1) with rfl|rfl
     ·simp at hand
      go_wp2_with fail
      go_quiet (fail)
      go_wp2_with fail
      go_roundw
      case rel=>exact ⟨3,_,by omega,by simp,by rw [←HCJ.out (by omega)];simp,rfl⟩
      case measure=>simp [intOf]
     ·simp at hand
      go_wp2_with fail
      go_quiet (fail)
      go_wp2_with fail
      go_roundw
      case rel=>exact ⟨3,_,by omega,by simp,by rw [←HCJ.out (by omega)];simp,rfl⟩
      case measure=>simp [intOf]
    ·rcases (by omega:bv=0∨bv=1) with rfl|rfl
     ·simp at hand
      go_wp2_with fail
      go_quiet (fail)
      go_wp2_with fail
      go_roundw
      case rel=>exact ⟨4,_,by omega,by simp,by rw [←HCJ.out (by omega)];simp,rfl⟩
      case measure=>simp [intOf]
     ·simp at hand
      go_wp2_with fail
      go_quiet (fail)
      go_wp2_with fail
      go_roundw
      case rel=>exact ⟨4,_,by omega,by simp,by rw [←HCJ.out (by omega)];simp,rfl⟩
      case measure=>simp [intOf]
    ·rcases (by omega:bv=0∨bv=1) with rfl|rfl
     ·simp at hand
      go_wp2_with fail
      go_quiet (fail)
      go_wp2_with fail
      go_roundw
      case rel=>exact ⟨5,_,by omega,by simp,by rw [←HCJ.out (by omega)];simp,rfl⟩
      case measure=>simp [intOf]
     ·simp at hand
      go_wp2_with fail
      go_quiet (fail)
      go_wp2_with fail
      go_roundw
      case rel=>exact ⟨5,_,by omega,by simp,by rw [←HCJ.out (by omega)];simp,rfl⟩
      case measure=>simp [intOf]
    ·have hpl:=popTo_le o 22
     have hpl':onesW o≤22:=hpl
     clear hand HCL HC H0 HCJ HBV hpl
     go_wp2_with (go_at_call 91;refine (sOnes_any _ _ (by omega)).mono ?_;rintro e w' ⟨rfl,rfl⟩)
     go_ret
     exact ⟨ret_int (by rw [HE.out,HO.out];simp),below_drewN (Below.refl _ _) _⟩
end Go.Proofs.Ytbnfdhidgdfbeaa

namespace Go.Proofs.Ytbnfdhidgdfbeaa
set_option maxRecDepth 100000
open Go.RowKit Cw

/-! ### repairing -/
end Go.Proofs.Ytbnfdhidgdfbeaa
