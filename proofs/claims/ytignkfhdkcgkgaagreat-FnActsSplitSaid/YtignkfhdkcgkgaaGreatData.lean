/- Codewords: the walks of the program's and the reference's functions. -/
import Derived.Test.YtignkfhdkcgkgaaGreatTilePure
namespace Go.Proofs.YtignkfhdkcgkgaaGreat
set_option maxHeartbeats 2000000
set_option maxRecDepth 100000
open Go.RowKit Cw
theorem nS (x:Nat) (h:x<9223372036854775808):bits .and .i64 (x:Int) 1=((x % 2:Nat):Int):=by
 have:=nz x 1 h (by omega)
 rw [Nat.and_one_is_mod] at this
 exact this
theorem jR (c i:Nat) (h:c<9223372036854775808):bits .and .i64 ((c:Int) / 2 ^ i) 1=((bit c i:Nat):Int):=by
 have e:((c:Int) / 2 ^ i)=((c / 2 ^ i:Nat):Int):=by rw [Int.natCast_ediv];simp
 rw [e,nS _ (Nat.lt_of_le_of_lt (Nat.div_le_self _ _) h)]
 rfl
theorem vS (p:Nat) (w:World) (h0:1<=p) (h1:p<=1000) :
  Calls Tryz.prog 223 #[.int .i64 p] w fun e w'=>e = .returned (.bool (isP p))/\w=w':=by
 have hb:bits .and .i64 (p:Int) ((p:Int) - 1)=((p &&& (p - 1):Nat):Int):=by
  rw [←nz p (p - 1) (by omega) (by omega)]
  congr 1
  omega
 go_enter Tryz.func223,Tryz.ntmps223
 go_wp2
 go_ret
 exact ⟨aI (by unfold isP;cases h:(p &&& (p - 1))==0 <;> simp_all),rfl⟩
theorem jS (c : Nat) (w : World) (h : c < 4194304) :
    Calls Tryz.prog 230 #[.int .i64 c] w fun e w' => e = .returned (.int .i64 (kJ c)) /\ w = w' := by
  go_enter Tryz.func230, Tryz.ntmps230
  go_wp2_with fail
  go_loop [3, 4] (fun v p => ∃ i : Nat, i <= 21 /\ p = .int .i64 ((i : Int) + 1) /\ v = .int .i64 (pF c i)) (fun _ p => 22 - (intOf p).toNat)
  case atStart => exact ⟨0, by omega, rfl, rfl⟩
  case round =>
    obtain ⟨i, hi, rfl, rfl⟩ := hrel
    by_cases hlt : i < 21
    · have hs := pF.eq_2 c i
      have hlo := pI c i (by omega)
      have hsb := jR c i (by omega)
      have HS := Hd hs
      clear hs
      have hx := jQ (pF c i) (i + 1) (by omega) (by omega)
      have HXR := Hd hx
      clear hx
      go_wp2_with fail
      · have hb : bit c i = 1 := by have : ((bit c i : Nat) : Int) = 1 := by simpa using ‹(((bit c i : Nat) : Int) == 1) = true›
                                    omega
        go_round
        case rel => exact ⟨i + 1, by omega, by go_num, by rw [HS.out, if_pos hb, ← HXR.out]; simp⟩
        case measure => simp [intOf]; omega
      · have hb : ¬ bit c i = 1 := by have : ¬ ((bit c i : Nat) : Int) = 1 := by simpa using ‹(((bit c i : Nat) : Int) == 1) = false›
                                      omega
        go_round
        case rel => exact ⟨i + 1, by omega, by go_num, by rw [HS.out, if_neg hb]⟩
        case measure => simp [intOf]; omega
    · obtain rfl : i = 21 := by omega
      go_wp2_with fail
      go_ret
      exact ⟨rfl, rfl⟩
theorem jB (c : Nat) (w : World) (h : c < 4194304) :
    Calls Tryz.prog 209 #[.int .i64 c] w fun e w' => e = .returned (.int .i64 (kJ c)) /\ w = w' := by
  have hr : inR (c : Int) 0 4194303 = true := aa.2 ⟨by omega, by omega⟩
  go_enter Tryz.func209, Tryz.ntmps209
  go_wp2_with (go_at_call 175; refine (aX _ _ _ _).mono ?_; rintro e w' ⟨rfl, rfl⟩)
  go_loop [3, 4] (fun v p => ∃ i : Nat, i <= 21 /\ p = .int .i64 ((i : Int) + 1) /\ v = .int .i64 (pF c i)) (fun _ p => 22 - (intOf p).toNat)
  case atStart => exact ⟨0, by omega, rfl, rfl⟩
  case round =>
    obtain ⟨i, hi, rfl, rfl⟩ := hrel
    by_cases hlt : i < 21
    · have hs := pF.eq_2 c i
      have hlo := pI c i (by omega)
      have hsb := jR c i (by omega)
      have HS := Hd hs
      clear hs
      have hx := jQ (pF c i) (i + 1) (by omega) (by omega)
      have HXR := Hd hx
      clear hx
      go_wp2_with fail
      · have hb : bit c i = 1 := by have : ((bit c i : Nat) : Int) = 1 := by simpa using ‹(((bit c i : Nat) : Int) == 1) = true›
                                    omega
        go_round
        case rel => exact ⟨i + 1, by omega, by go_num, by rw [HS.out, if_pos hb, ← HXR.out]; simp⟩
        case measure => simp [intOf]; omega
      · have hb : ¬ bit c i = 1 := by have : ¬ ((bit c i : Nat) : Int) = 1 := by simpa using ‹(((bit c i : Nat) : Int) == 1) = false›
                                      omega
        go_round
        case rel => exact ⟨i + 1, by omega, by go_num, by rw [HS.out, if_neg hb]⟩
        case measure => simp [intOf]; omega
    · obtain rfl : i = 21 := by omega
      go_wp2_with fail
      go_ret
      exact ⟨rfl, rfl⟩
theorem uA (p:Nat) (w:World) (h0:1<=p) (h1:p<=1000) :
  Calls Tryz.prog 208 #[.int .i64 p] w fun e w'=>e = .returned (.bool (isP p))/\w=w':=by
 have hb:bits .and .i64 (p:Int) ((p:Int) - 1)=((p &&& (p - 1):Nat):Int):=by
  rw [←nz p (p - 1) (by omega) (by omega)]
  congr 1
  omega
 go_enter Tryz.func208,Tryz.ntmps208
 go_wp2
 go_ret
 exact ⟨aI (by unfold isP;cases h:(p &&& (p - 1))==0 <;> simp_all),rfl⟩
theorem qW {b k:Nat} (hb:b<=1) (hk:k<=61):wrap64 ((b:Int) * 2 ^ k)=((b * 2 ^ k:Nat):Int):=by
 have hp:=kZ (show k<=62 by omega)
 rw [jY]
 generalize 2 ^ k=p at *
 rw [←Int.natCast_mul]
 have:b * p<=p:=by
  rcases Nat.lt_or_ge 0 b with h|h
  ·obtain rfl:b=1:=by omega
   omega
  ·obtain rfl:b=0:=by omega
   omega
 exact IntWalk.wrap64_in _ ⟨by omega,by omega⟩
theorem qX {a b k:Nat} (ha:a<2 ^ k) (hb:b<=1) (hk:k<=61):bits .or .i64 (a:Int) (wrap64 ((b:Int) * 2 ^ k))=((a+b * 2 ^ k:Nat):Int):=by
 rw [qW hb hk]
 have hp:=kZ (show k<=62 by omega)
 rcases Nat.lt_or_ge 0 b with h|h
 ·obtain rfl:b=1:=by omega
  rw [Nat.one_mul,il a (2 ^ k) (by omega) hp,Iu a k ha]
 ·obtain rfl:b=0:=by omega
  rw [Nat.zero_mul,il a 0 (by omega) (by omega),Nat.or_zero,Nat.add_zero]
theorem rH {a b k:Nat} (ha:a<2 ^ k) (hb:b<=1) (hk:k<=60):wrap64 ((a:Int)+wrap64 ((b:Int) * 2 ^ k))=((a+b * 2 ^ k:Nat):Int):=by
 rw [qW hb (by omega)]
 have h1:=nM ha hb
 have h2:=kZ (show k+1<=62 by omega)
 rw [←Int.natCast_add]
 generalize a+b * 2 ^ k=q at *
 exact IntWalk.wrap64_in _ ⟨by omega,by omega⟩
theorem kK (c:Nat) (w:World) (h:c<4194304) :
  Calls Tryz.prog 191 #[.int .i64 c] w fun e w'=>e = .returned (.int .i64 (dataW c))/\w=w':=by
 go_enter Tryz.func191,Tryz.ntmps191
 go_wp2_with fail
 go_loop [3,4,5] (fun v k p=>∃i:Nat,i<=21/\p = .int .i64 ((i:Int)+1)/\k = .int .i64 (kTo i)/\v = .int .i64 (gX c i)) (fun _ _ p=>22 - (intOf p).toNat)
 case atStart=>exact ⟨0,by omega,rfl,rfl,rfl⟩
 case round =>
  obtain ⟨i,hi,rfl,rfl,rfl⟩:=hrel
  by_cases hlt:i<21
  ·skip
   have hs:=gX.eq_2 c i
   have hk:=kTo.eq_2 i
   have hlo:=rC c i
   have hkl:=BD i
   have hsb:=jR c i (by omega)
   have hor:=qX hlo (fu c i) (show kTo i<=61 by omega)
   have hadd:=rH hlo (fu c i) (show kTo i<=60 by omega)
   have HS:=Hd hs
   have HK:=Hd hk
   have HOR:=Hd hor
   have HADD:=Hd hadd
   clear hs hk hlo hor hadd
   have hcp:=vS (i+1)
   simp only [Int.natCast_add,Int.natCast_one] at hcp
   have HCP:=Hd hcp
   clear hcp
   cases hp:isP (i+1) with
   | true =>
    have HP:=Hd hp
    go_wp2_with (go_at_call 223;refine (HCP.out _ (by omega) (by omega)).mono ?_;rintro e w' ⟨rfl,rfl⟩)
    go_round
    case rel=>exact ⟨i+1,by omega,by go_num,by rw [HK.out,HP.out];simp,by rw [HS.out,HP.out];simp⟩
    case measure=>simp [intOf];omega
   | false =>
    have HP:=Hd hp
    go_wp2_with (go_at_call 223;refine (HCP.out _ (by omega) (by omega)).mono ?_;rintro e w' ⟨rfl,rfl⟩)
    go_round
    case rel=>exact ⟨i+1,by omega,by go_num,by rw [HK.out,HP.out];simp,by rw [HS.out,HP.out];(first|rw [HOR.out]|rw [HADD.out]);simp⟩
    case measure=>simp [intOf];omega
  ·obtain rfl:i=21:=by omega
   go_wp2_with fail
   go_ret
   exact ⟨rfl,rfl⟩
theorem lT (c:Nat) (w:World) (h:c<4194304) :
  Calls Tryz.prog 183 #[.int .i64 c] w fun e w'=>e = .returned (.int .i64 (dataW c))/\w=w':=by
 have hr:inR (c:Int) 0 4194303=true:=aa.2 ⟨by omega,by omega⟩
 go_enter Tryz.func183,Tryz.ntmps183
 go_wp2_with (go_at_call 175;refine (aX _ _ _ _).mono ?_;rintro e w' ⟨rfl,rfl⟩)
 go_loop [3,4,5] (fun v k p=>∃i:Nat,i<=21/\p = .int .i64 ((i:Int)+1)/\k = .int .i64 (kTo i)/\v = .int .i64 (gX c i)) (fun _ _ p=>22 - (intOf p).toNat)
 case atStart=>exact ⟨0,by omega,rfl,rfl,rfl⟩
 case round =>
  obtain ⟨i,hi,rfl,rfl,rfl⟩:=hrel
  by_cases hlt:i<21
  ·skip
   have hs:=gX.eq_2 c i
   have hk:=kTo.eq_2 i
   have hlo:=rC c i
   have hkl:=BD i
   have hsb:=jR c i (by omega)
   have hor:=qX hlo (fu c i) (show kTo i<=61 by omega)
   have hadd:=rH hlo (fu c i) (show kTo i<=60 by omega)
   have HS:=Hd hs
   have HK:=Hd hk
   have HOR:=Hd hor
   have HADD:=Hd hadd
   clear hs hk hlo hor hadd
   have hcp:=uA (i+1)
   simp only [Int.natCast_add,Int.natCast_one] at hcp
   have HCP:=Hd hcp
   clear hcp
   cases hp:isP (i+1) with
   | true =>
    have HP:=Hd hp
    go_wp2_with (go_at_call 208;refine (HCP.out _ (by omega) (by omega)).mono ?_;rintro e w' ⟨rfl,rfl⟩)
    go_round
    case rel=>exact ⟨i+1,by omega,by go_num,by rw [HK.out,HP.out];simp,by rw [HS.out,HP.out];simp⟩
    case measure=>simp [intOf];omega
   | false =>
    have HP:=Hd hp
    go_wp2_with (go_at_call 208;refine (HCP.out _ (by omega) (by omega)).mono ?_;rintro e w' ⟨rfl,rfl⟩)
    go_round
    case rel=>exact ⟨i+1,by omega,by go_num,by rw [HK.out,HP.out];simp,by rw [HS.out,HP.out];(first|rw [HOR.out]|rw [HADD.out]);simp⟩
    case measure=>simp [intOf];omega
  ·obtain rfl:i=21:=by omega
   go_wp2_with fail
   go_ret
   exact ⟨rfl,rfl⟩
/-! ### counting ones -/
theorem EF {c k m : Nat} (h : c / 2 ^ k = 0) (hk : k <= m) : pG c m = pG c k := by
  induction m with
  | zero => obtain rfl : k = 0 := by omega
            rfl
  | succ m ih =>
    rcases Nat.lt_or_ge m k with h1 | h1
    · obtain rfl : k = m + 1 := by omega
      rfl
    · rw [pG, ih h1, bit, Nat.div_eq_of_lt]
      · simp
      · have h2 : c < 2 ^ k := by
          rcases Nat.lt_or_ge c (2 ^ k) with h3 | h3
          · exact h3
          · have := Nat.div_pos h3 (Nat.two_pow_pos k)
            omega
        exact Nat.lt_of_lt_of_le h2 (Nat.pow_le_pow_right (by omega) h1)
theorem jT (c:Nat) (w:World) (h:c<4194304) :
  Calls Tryz.prog 231 #[.int .i64 c] w fun e w'=>e = .returned (.int .i64 (kI c))/\w=w':=by
 go_enter Tryz.func231,Tryz.ntmps231
 go_wp2_with fail
 go_loop [0,3] (fun n v=>∃k:Nat,k<=22/\n = .int .i64 ((c / 2 ^ k:Nat):Int)/\v = .int .i64 (pG c k)) (fun n _=>(intOf n).toNat)
 case atStart=>exact ⟨0,by omega,by simp,rfl⟩
 case round =>
  obtain ⟨k,hk,rfl,rfl⟩:=hrel
  have hle:c / 2 ^ k<=c:=Nat.div_le_self _ _
  have hand:=nS (c / 2 ^ k) (by omega)
  have hpl:=pJ c k
  have hst:=EF (c:=c) (k:=k) (m:=22)
  have HST:=Hd hst
  have hs:=pG.eq_2 c k
  have HS:=Hd hs
  have hbd:bit c k=c / 2 ^ k % 2:=rfl
  have HBD:=Hd hbd
  have hdv:c / 2 ^ (k+1)=c / 2 ^ k / 2:=by rw [Nat.pow_succ,Nat.div_div_eq_div_mul]
  have HDV:=Hd hdv
  have hbig:¬k<22→c / 2 ^ k=0:=fun hk'=>by
   obtain rfl:k=22:=by omega
   exact Nat.div_eq_of_lt h
  have HBIG:=Hd hbig
  clear hst hs hbd hdv hbig
  generalize c / 2 ^ k=q at *
  by_cases hq:0<q
  ·have hk22:k<22:=by
    rcases Nat.lt_or_ge k 22 with h1|h1
    ·exact h1
    ·have:=HBIG.out (by omega);omega
   go_wp2_with fail
   go_round
   case rel=>exact ⟨k+1,by omega,by rw [HDV.out];simp,by rw [HS.out,HBD.out];simp⟩
   case measure=>simp [intOf];omega
  ·obtain rfl:q=0:=by omega
   go_wp2_with fail
   go_ret
   exact ⟨ag (by rw [kI,HST.out (by first|trivial|rfl) hk]),rfl⟩
theorem mZ (c:Nat) (w:World) (h:c<4194304) :
  Calls Tryz.prog 210 #[.int .i64 c] w fun e w'=>e = .returned (.int .i64 (kI c))/\w=w':=by
 go_enter Tryz.func210,Tryz.ntmps210
 go_wp2_with fail
 go_loop [3,4] (fun v i=>∃k:Nat,k<=22/\i = .int .i64 k/\v = .int .i64 (pG c k)) (fun _ i=>22 - (intOf i).toNat)
 case atStart=>exact ⟨0,by omega,rfl,rfl⟩
 case round =>
  obtain ⟨k,hk,rfl,rfl⟩:=hrel
  have hpl:=pJ c k
  have hbl:=fu c k
  have hsb:=jR c k (by omega)
  have hs:=pG.eq_2 c k
  have HS:=Hd hs
  clear hs
  by_cases hlt:k<22
  ·go_wp2_with fail
   go_round
   case rel=>exact ⟨k+1,by omega,by go_num,by rw [HS.out];simp⟩
   case measure=>simp [intOf];omega
  ·obtain rfl:k=22:=by omega
   go_wp2_with fail
   go_ret
   exact ⟨rfl,rfl⟩
/-! ### encoding -/
theorem Bc (s j:Nat):s &&& 2 ^ j=bit s j * 2 ^ j:=Go.nat_bit j s
theorem qY (x:Nat) (w:World) (h:x<65536) :
  Calls Tryz.prog 214 #[.int .i64 x] w fun e w'=>e = .returned (.int .i64 (encW x))/\w=w':=by
 have hr:inR (x:Int) 0 65535=true:=aa.2 ⟨by omega,by omega⟩
 go_enter Tryz.func214,Tryz.ntmps214
 go_wp2_with (go_at_call 116;refine (aN _ _ _ _).mono ?_;rintro e w' ⟨rfl,rfl⟩)
 go_loop [3,4,5] (fun v k p=>∃i:Nat,i<=21/\p = .int .i64 ((i:Int)+1)/\k = .int .i64 (kTo i)/\v = .int .i64 (bK x i)) (fun _ _ p=>22 - (intOf p).toNat)
 case atStart=>exact ⟨0,by omega,rfl,rfl,rfl⟩
 case round =>
  obtain ⟨i,hi,rfl,rfl,rfl⟩:=hrel
  by_cases hlt:i<21
  ·skip
   have hs:=bK.eq_2 x i
   have hk:=kTo.eq_2 i
   have hlo:=jM x i
   have hkl:=BD i
   have hsb:=jR x (kTo i) (by omega)
   have hor:=qX hlo (fu x (kTo i)) (show i<=61 by omega)
   have hadd:=rH hlo (fu x (kTo i)) (show i<=60 by omega)
   have HS:=Hd hs
   have HK:=Hd hk
   have HOR:=Hd hor
   have HADD:=Hd hadd
   clear hs hk hlo hor hadd
   have hcp:=vS (i+1)
   simp only [Int.natCast_add,Int.natCast_one] at hcp
   have HCP:=Hd hcp
   clear hcp
   cases hp:isP (i+1) with
   | true =>
    have HP:=Hd hp
    go_wp2_with (go_at_call 223;refine (HCP.out _ (by omega) (by omega)).mono ?_;rintro e w' ⟨rfl,rfl⟩)
    go_round
    case rel=>exact ⟨i+1,by omega,by go_num,by rw [HK.out,HP.out];simp,by rw [HS.out,HP.out];simp⟩
    case measure=>simp [intOf];omega
   | false =>
    have HP:=Hd hp
    go_wp2_with (go_at_call 223;refine (HCP.out _ (by omega) (by omega)).mono ?_;rintro e w' ⟨rfl,rfl⟩)
    go_round
    case rel=>exact ⟨i+1,by omega,by go_num,by rw [HK.out,HP.out];simp,by rw [HS.out,HP.out];(first|rw [HOR.out]|rw [HADD.out]);simp⟩
    case measure=>simp [intOf];omega
  ·obtain rfl:i=21:=by omega
   have hsp:=jM x 21
   have hsl:=pI (bK x 21) 21 (by omega)
   have hcl:=fun j hj=>BF (s:=kJ (bK x 21)) hsp j hj
   have HCL:=Hd hcl
   have hC:=fun j=>iw.eq_2 (bK x 21) (kJ (bK x 21)) j
   have HC:=Hd hC
   have hE:encW x=iw (bK x 21) (kJ (bK x 21)) 5+kI (iw (bK x 21) (kJ (bK x 21)) 5) % 2 * 2 ^ 21:=rfl
   have HE:=Hd hE
   clear hcl hC hE
   go_wp2_with (go_at_call 230;refine (jS _ _ (by omega)).mono ?_;rintro e w' ⟨rfl,rfl⟩)
   have hs5:kJ (bK x 21)<32:=hsl
   clear hsl
   generalize kJ (bK x 21)=s at *
   have h0:iw (bK x 21) s 0=bK x 21:=rfl
   have H0:=Hd h0
   clear h0
   go_loop [3,7] (fun v p=>∃j:Nat,j<=5/\p = .int .i64 ((2 ^ j:Nat):Int)/\v = .int .i64 (iw (bK x 21) s j)) (fun _ p=>33 - (intOf p).toNat)
   case atStart=>exact ⟨0,by omega,rfl,by rw [H0.out]⟩
   case round =>
    obtain ⟨j,hj,rfl,rfl⟩:=hrel
    have hlt:=HCL.out j hj
    have hCj:=HC.out j
    have hbl:=fu s j
    have hand:=nz s (2 ^ j) (by omega) (kZ (show j<=62 by omega))
    rw [Bc] at hand
    have HCJ:=Hd hCj
    generalize ho:iw (bK x 21) s j=o at *
    have HO:=Hd ho
    clear ho
    generalize hbv:bit s j=bv at *
    have HBV:=Hd hbv
    clear hCj hbv
    rcases (by omega:j=0∨j=1∨j=2∨j=3∨j=4∨j=5) with rfl|rfl|rfl|rfl|rfl|rfl
    ·rcases (by omega:bv=0∨bv=1) with rfl|rfl
     ·simp at hand
      go_wp2_with fail
      go_round
      case rel=>exact ⟨1,by omega,by simp,by rw [HCJ.out];simp⟩
      case measure=>simp [intOf]
     ·simp at hand
      go_wp2_with fail
      go_round
      case rel=>exact ⟨1,by omega,by simp,congrArg (Value.int .i64) ((il o 1 (by omega) (by omega)).trans (by rw [HCJ.out]))⟩
      case measure=>simp [intOf]
    ·rcases (by omega:bv=0∨bv=1) with rfl|rfl
     ·simp at hand
      go_wp2_with fail
      go_round
      case rel=>exact ⟨2,by omega,by simp,by rw [HCJ.out];simp⟩
      case measure=>simp [intOf]
     ·simp at hand
      go_wp2_with fail
      go_round
      case rel=>exact ⟨2,by omega,by simp,congrArg (Value.int .i64) ((il o 2 (by omega) (by omega)).trans (by rw [HCJ.out]))⟩
      case measure=>simp [intOf]
    ·rcases (by omega:bv=0∨bv=1) with rfl|rfl
     ·simp at hand
      go_wp2_with fail
      go_round
      case rel=>exact ⟨3,by omega,by simp,by rw [HCJ.out];simp⟩
      case measure=>simp [intOf]
     ·simp at hand
      go_wp2_with fail
      go_round
      case rel=>exact ⟨3,by omega,by simp,congrArg (Value.int .i64) ((il o 8 (by omega) (by omega)).trans (by rw [HCJ.out]))⟩
      case measure=>simp [intOf]
    ·rcases (by omega:bv=0∨bv=1) with rfl|rfl
     ·simp at hand
      go_wp2_with fail
      go_round
      case rel=>exact ⟨4,by omega,by simp,by rw [HCJ.out];simp⟩
      case measure=>simp [intOf]
     ·simp at hand
      go_wp2_with fail
      go_round
      case rel=>exact ⟨4,by omega,by simp,congrArg (Value.int .i64) ((il o 128 (by omega) (by omega)).trans (by rw [HCJ.out]))⟩
      case measure=>simp [intOf]
    ·rcases (by omega:bv=0∨bv=1) with rfl|rfl
     ·simp at hand
      go_wp2_with fail
      go_round
      case rel=>exact ⟨5,by omega,by simp,by rw [HCJ.out];simp⟩
      case measure=>simp [intOf]
     ·simp at hand
      go_wp2_with fail
      go_round
      case rel=>exact ⟨5,by omega,by simp,congrArg (Value.int .i64) ((il o 32768 (by omega) (by omega)).trans (by rw [HCJ.out]))⟩
      case measure=>simp [intOf]
    ·have hpl:=pJ o 22
     have hpl':kI o<=22:=hpl
     have hmod:=nS (kI o) (by omega)
     have hm2:kI o % 2<=1:=by omega
     have hfin:=qX (k:=21) hlt hm2 (by omega)
     rw [qW hm2 (by omega)] at hfin
     have HFIN:=Hd hfin
     clear hfin hand HCL HC H0 HCJ HBV hpl
     go_wp2_with (go_at_call 231;refine (jT _ _ (by omega)).mono ?_;rintro e w' ⟨rfl,rfl⟩)
     go_ret
     refine ⟨ag ?_,rfl⟩
     rw [HE.out,HO.out,←HFIN.out]
     rfl
theorem mF (x:Nat) (w:World) (h:x<65536) :
  Calls Tryz.prog 161 #[.int .i64 x] w fun e w'=>e = .returned (.int .i64 (encW x))/\Below w.heap.size w w':=by
 have hr:inR (x:Int) 0 65535=true:=aa.2 ⟨by omega,by omega⟩
 go_enter Tryz.func161,Tryz.ntmps161
 go_wp2_with (go_at_call 175;refine (aX _ _ _ _).mono ?_;rintro e w' ⟨rfl,rfl⟩)
 go_loop [3,4,5] (fun v k p=>∃i:Nat,i<=21/\p = .int .i64 ((i:Int)+1)/\k = .int .i64 (kTo i)/\v = .int .i64 (bK x i)) (fun _ _ p=>22 - (intOf p).toNat)
 case atStart=>exact ⟨0,by omega,rfl,rfl,rfl⟩
 case round =>
  obtain ⟨i,hi,rfl,rfl,rfl⟩:=hrel
  by_cases hlt:i<21
  ·skip
   have hs:=bK.eq_2 x i
   have hk:=kTo.eq_2 i
   have hlo:=jM x i
   have hkl:=BD i
   have hsb:=jR x (kTo i) (by omega)
   have hor:=qX hlo (fu x (kTo i)) (show i<=61 by omega)
   have hadd:=rH hlo (fu x (kTo i)) (show i<=60 by omega)
   have HS:=Hd hs
   have HK:=Hd hk
   have HOR:=Hd hor
   have HADD:=Hd hadd
   clear hs hk hlo hor hadd
   have hcp:=uA (i+1)
   simp only [Int.natCast_add,Int.natCast_one] at hcp
   have HCP:=Hd hcp
   clear hcp
   cases hp:isP (i+1) with
   | true =>
    have HP:=Hd hp
    go_wp2_with (go_at_call 208;refine (HCP.out _ (by omega) (by omega)).mono ?_;rintro e w' ⟨rfl,rfl⟩)
    go_round
    case rel=>exact ⟨i+1,by omega,by go_num,by rw [HK.out,HP.out];simp,by rw [HS.out,HP.out];simp⟩
    case measure=>simp [intOf];omega
   | false =>
    have HP:=Hd hp
    go_wp2_with (go_at_call 208;refine (HCP.out _ (by omega) (by omega)).mono ?_;rintro e w' ⟨rfl,rfl⟩)
    go_round
    case rel=>exact ⟨i+1,by omega,by go_num,by rw [HK.out,HP.out];simp,by rw [HS.out,HP.out];(first|rw [HOR.out]|rw [HADD.out]);simp⟩
    case measure=>simp [intOf];omega
  ·obtain rfl:i=21:=by omega
   have hsp:=jM x 21
   have hsl:=pI (bK x 21) 21 (by omega)
   have hcl:=fun j hj=>BF (s:=kJ (bK x 21)) hsp j hj
   have HCL:=Hd hcl
   have hC:=fun j=>iw.eq_2 (bK x 21) (kJ (bK x 21)) j
   have HC:=Hd hC
   have hE:encW x=iw (bK x 21) (kJ (bK x 21)) 5+kI (iw (bK x 21) (kJ (bK x 21)) 5) % 2 * 2 ^ 21:=rfl
   have HE:=Hd hE
   clear hcl hC hE
   go_wp2_with (go_at_call 209;refine (jB _ _ (by omega)).mono ?_;rintro e w' ⟨rfl,rfl⟩)
   have hs5:kJ (bK x 21)<32:=hsl
   clear hsl
   generalize kJ (bK x 21)=s at *
   have h0:iw (bK x 21) s 0=bK x 21:=rfl
   have H0:=Hd h0
   clear h0
   go_loopw [3,7] (fun v p wr=>∃j nq:Nat,j<=5/\p = .int .i64 (j:Int)/\v = .int .i64 (iw (bK x 21) s j)/\wr=w.drewN nq) (fun _ p _=>6 - (intOf p).toNat)
   case atStart=>exact ⟨0,0,by omega,rfl,by rw [H0.out],rfl⟩
   case round =>
    obtain ⟨j,nq,hj,rfl,rfl,rfl⟩:=hrel
    have hlt:=HCL.out j hj
    have hCj:j<5→iw (bK x 21) s j+bit s j * 2 ^ (2 ^ j - 1)=iw (bK x 21) s (j+1):=JO x s j
    have hbl:=fu s j
    have hand:=jR s j (by omega)
    have HCJ:=Hd hCj
    generalize ho:iw (bK x 21) s j=o at *
    have HO:=Hd ho
    clear ho
    generalize hbv:bit s j=bv at *
    have HBV:=Hd hbv
    clear hCj hbv
    rcases (by omega:j=0∨j=1∨j=2∨j=3∨j=4∨j=5) with rfl|rfl|rfl|rfl|rfl|rfl
    ·rcases (by omega:bv=0∨bv=1) with rfl|rfl
     ·simp at hand
      go_wp2_with fail
      go_quiet (fail)
      go_wp2_with fail
      go_roundw
      case rel=>exact ⟨1,_,by omega,by simp,by rw [←HCJ.out (by omega)];simp,rfl⟩
      case measure=>simp [intOf]
     ·simp at hand
      go_wp2_with fail
      go_quiet (fail)
      go_wp2_with fail
      go_roundw
      case rel=>exact ⟨1,_,by omega,by simp,by rw [←HCJ.out (by omega)];simp,rfl⟩
      case measure=>simp [intOf]
    ·rcases (by omega:bv=0∨bv=1) with rfl|rfl
     ·simp at hand
      go_wp2_with fail
      go_quiet (fail)
      go_wp2_with fail
      go_roundw
      case rel=>exact ⟨2,_,by omega,by simp,by rw [←HCJ.out (by omega)];simp,rfl⟩
      case measure=>simp [intOf]
     ·simp at hand
      go_wp2_with fail
      go_quiet (fail)
      go_wp2_with fail
      go_roundw
      case rel=>exact ⟨2,_,by omega,by simp,by rw [←HCJ.out (by omega)];simp,rfl⟩
      case measure=>simp [intOf]
    ·rcases (by omega:bv=0∨bv=1) with rfl|rfl
     ·simp at hand
      go_wp2_with fail
      go_quiet (fail)
      go_wp2_with fail
      go_roundw
      case rel=>exact ⟨3,_,by omega,by simp,by rw [←HCJ.out (by omega)];simp,rfl⟩
      case measure=>simp [intOf]
     ·simp at hand
      go_wp2_with fail
      go_quiet (fail)
      go_wp2_with fail
      go_roundw
      case rel=>exact ⟨3,_,by omega,by simp,by rw [←HCJ.out (by omega)];simp,rfl⟩
      case measure=>simp [intOf]
    ·rcases (by omega:bv=0∨bv=1) with rfl|rfl
     ·simp at hand
      go_wp2_with fail
      go_quiet (fail)
      go_wp2_with fail
      go_roundw
      case rel=>exact ⟨4,_,by omega,by simp,by rw [←HCJ.out (by omega)];simp,rfl⟩
      case measure=>simp [intOf]
     ·simp at hand
      go_wp2_with fail
      go_quiet (fail)
      go_wp2_with fail
      go_roundw
      case rel=>exact ⟨4,_,by omega,by simp,by rw [←HCJ.out (by omega)];simp,rfl⟩
      case measure=>simp [intOf]
    ·rcases (by omega:bv=0∨bv=1) with rfl|rfl
     ·simp at hand
      go_wp2_with fail
      go_quiet (fail)
      go_wp2_with fail
      go_roundw
      case rel=>exact ⟨5,_,by omega,by simp,by rw [←HCJ.out (by omega)];simp,rfl⟩
      case measure=>simp [intOf]
     ·simp at hand
      go_wp2_with fail
      go_quiet (fail)
      go_wp2_with fail
      go_roundw
      case rel=>exact ⟨5,_,by omega,by simp,by rw [←HCJ.out (by omega)];simp,rfl⟩
      case measure=>simp [intOf]
    ·have hpl:=pJ o 22
     have hpl':kI o<=22:=hpl
     clear hand HCL HC H0 HCJ HBV hpl
     go_wp2_with (go_at_call 210;refine (mZ _ _ (by omega)).mono ?_;rintro e w' ⟨rfl,rfl⟩)
     go_ret
     exact ⟨ag (by rw [HE.out,HO.out];simp),ai (Below.refl _ _) _⟩
theorem EG {c:Nat} (h:c<4194304):inR (c:Int) 0 4194303=true:=aa.2 ⟨by omega,by omega⟩
theorem uB (c:Nat):dataW c<65536:=rC c 21
def pX (c:Nat):Nat × Nat :=
 if kI c % 2=0 then (if kJ c=0 then (dataW c,0) else (0,2))
 else if kJ c=0 then (dataW c,1) else if kJ c<=21 then (dataW (c ^^^ 2 ^ (kJ c - 1)),1) else (0,2)
def jZ (code:Int):Int × Int:=if inR code 0 4194303=true then (((pX code.toNat).1:Int),((pX code.toNat).2:Int)) else (0,2)
def pY (code:Int):Int × Int:=if (jZ code).2=1 then ((encW (jZ code).1.toNat:Nat),1) else (code,(jZ code).2)
theorem Be {code:Int} (h:inR code 0 4194303=false):jZ code=(0,2):=by rw [jZ,h];rfl
theorem Bf {c:Nat} (h:c<4194304):jZ (c:Int)=(((pX c).1:Int),((pX c).2:Int)):=by rw [jZ,EG h];simp
theorem mo {c k:Nat} (h:c<4194304) (hk:k<=21):c ^^^ 2 ^ k<4194304:=by
 have h1:2 ^ k<2 ^ 22:=Nat.pow_lt_pow_right (by omega) (by omega)
 exact Nat.xor_lt_two_pow (n:=22) (by omega) h1
theorem mr (code:Int) (w:World) :
  Calls Tryz.prog 215 #[.int .i64 code] w fun e w'=>e = .returned (.tuple #[.int .i64 (jZ code).1,.int .i64 (jZ code).2])/\w=w':=by
 cases hr:inR code 0 4194303 with
 | false =>
  have HD:=Hd (Be hr)
  go_enter Tryz.func215,Tryz.ntmps215
  go_wp2_with (go_at_call 116;refine (aN _ _ _ _).mono ?_;rintro e w' ⟨rfl,rfl⟩)
  go_ret2
  exact ⟨by rw [HD.out];rfl,rfl⟩
 | true =>
  have hb:=aa.1 hr
  obtain ⟨c,rfl⟩:=Int.eq_ofNat_of_zero_le hb.1
  have hc:c<4194304:=by omega
  have HD:=Hd (Bf hc)
  have HN:Hid (pX c=if kI c % 2=0 then (if kJ c=0 then (dataW c,0) else (0,2))
   else if kJ c=0 then (dataW c,1) else if kJ c<=21 then (dataW (c ^^^ 2 ^ (kJ c - 1)),1) else (0,2)):=rfl
  have hs:kJ c<32:=pI c 21 (by omega)
  have ho:kI c<=22:=pJ c 22
  have hx21:bits .xor .i64 (c:Int) 2097152=((c ^^^ 2097152:Nat):Int):=jQ c 2097152 (by omega) (by omega)
  have hx21':c ^^^ 2097152<4194304:=mo (k:=21) hc (by omega)
  generalize hsy:kJ c=s at *
  have HSY:=Hd hsy
  clear hsy
  have HON:Hid (kI c=kI c):=rfl
  generalize hoy:kI c=o at *
  have HOY:=Hd hoy
  clear hoy HON
  rcases (by omega:o % 2=0∨o % 2=1) with ho2|ho2
  ·have hoi:(o:Int) % 2=0:=by omega
   have HO2:=Hd ho2
   clear ho2
   rcases Nat.eq_zero_or_pos s with rfl|hs0
   ·have HV:Hid (pX c=(dataW c,0)):=by unfold Hid;rw [HN.out,if_pos HO2.out,if_pos rfl]
    clear HN
    go_enter Tryz.func215,Tryz.ntmps215
    go_wp2_with (first
     | (go_at_call 116;refine (aN _ _ _ _).mono ?_;rintro e w' ⟨rfl,rfl⟩)
     | (go_at_call 230;refine (jS _ _ hc).mono ?_;rintro e w' ⟨rfl,rfl⟩;rw [HSY.out])
     | (go_at_call 231;refine (jT _ _ hc).mono ?_;rintro e w' ⟨rfl,rfl⟩;rw [HOY.out])
     | (go_at_call 191;refine (kK _ _ hc).mono ?_;rintro e w' ⟨rfl,rfl⟩))
    go_ret2
    exact ⟨by rw [HD.out,HV.out];simp,rfl⟩
   ·have HV:Hid (pX c=(0,2)):=by unfold Hid;rw [HN.out,if_pos HO2.out,if_neg (by omega)]
    have hs1:((s:Int)==0)=false:=by simp;omega
    clear HN
    go_enter Tryz.func215,Tryz.ntmps215
    go_wp2_with (first
     | (go_at_call 116;refine (aN _ _ _ _).mono ?_;rintro e w' ⟨rfl,rfl⟩)
     | (go_at_call 230;refine (jS _ _ hc).mono ?_;rintro e w' ⟨rfl,rfl⟩;rw [HSY.out])
     | (go_at_call 231;refine (jT _ _ hc).mono ?_;rintro e w' ⟨rfl,rfl⟩;rw [HOY.out]))
    go_ret2
    exact ⟨by rw [HD.out,HV.out];simp,rfl⟩
  ·have hoi:(o:Int) % 2=1:=by omega
   have HO2:=Hd ho2
   clear ho2
   rcases Nat.eq_zero_or_pos s with rfl|hs0
   ·have HV:Hid (pX c=(dataW c,1)):=by unfold Hid;rw [HN.out,if_neg (by rw [HO2.out];omega),if_pos rfl]
    clear HN
    go_enter Tryz.func215,Tryz.ntmps215
    go_wp2_with (first
     | (go_at_call 116;refine (aN _ _ _ _).mono ?_;rintro e w' ⟨rfl,rfl⟩)
     | (go_at_call 230;refine (jS _ _ hc).mono ?_;rintro e w' ⟨rfl,rfl⟩;rw [HSY.out])
     | (go_at_call 231;refine (jT _ _ hc).mono ?_;rintro e w' ⟨rfl,rfl⟩;rw [HOY.out])
     | (go_at_call 191;refine (kK _ _ hx21').mono ?_;rintro e w' ⟨rfl,rfl⟩;rw [BG]))
    go_ret2
    exact ⟨by rw [HD.out,HV.out];simp,rfl⟩
   ·rcases Nat.lt_or_ge 21 s with h21|h21
    ·have HV:Hid (pX c=(0,2)):=by unfold Hid;rw [HN.out,if_neg (by rw [HO2.out];omega),if_neg (by omega),if_neg (by omega)]
     have hs1:((s:Int)==0)=false:=by simp;omega
     clear HN
     go_enter Tryz.func215,Tryz.ntmps215
     go_wp2_with (first
      | (go_at_call 116;refine (aN _ _ _ _).mono ?_;rintro e w' ⟨rfl,rfl⟩)
      | (go_at_call 230;refine (jS _ _ hc).mono ?_;rintro e w' ⟨rfl,rfl⟩;rw [HSY.out])
      | (go_at_call 231;refine (jT _ _ hc).mono ?_;rintro e w' ⟨rfl,rfl⟩;rw [HOY.out]))
     go_ret2
     exact ⟨by rw [HD.out,HV.out];simp,rfl⟩
    ·have HV:Hid (pX c=(dataW (c ^^^ 2 ^ (s - 1)),1)):=by unfold Hid;rw [HN.out,if_neg (by rw [HO2.out];omega),if_neg (by omega),if_pos h21]
     obtain ⟨k,rfl⟩:∃k,s=k+1:=⟨s - 1,by omega⟩
     have hs1:((k:Int)+1==0)=false:=by simp;omega
     have hwp:wrap64 (2 ^ k)=2 ^ k:=pM (by omega)
     have hxk:bits .xor .i64 (c:Int) (2 ^ k)=((c ^^^ 2 ^ k:Nat):Int):=by
      rw [jY];exact jQ c _ (by omega) (kZ (by omega))
     have hxl:c ^^^ 2 ^ k<4194304:=mo hc (by omega)
     clear HN
     go_enter Tryz.func215,Tryz.ntmps215
     go_wp2_with (first
      | (go_at_call 116;refine (aN _ _ _ _).mono ?_;rintro e w' ⟨rfl,rfl⟩)
      | (go_at_call 230;refine (jS _ _ hc).mono ?_;rintro e w' ⟨rfl,rfl⟩;rw [HSY.out])
      | (go_at_call 231;refine (jT _ _ hc).mono ?_;rintro e w' ⟨rfl,rfl⟩;rw [HOY.out])
      | (go_at_call 191;refine (kK _ _ hxl).mono ?_;rintro e w' ⟨rfl,rfl⟩))
     go_ret2
     exact ⟨by rw [HD.out,HV.out];simp,rfl⟩
theorem jg (code:Int) (w:World) :
  Calls Tryz.prog 178 #[.int .i64 code] w fun e w'=>e = .returned (.tuple #[.int .i64 (jZ code).1,.int .i64 (jZ code).2])/\w=w':=by
 cases hr:inR code 0 4194303 with
 | false =>
  have HD:=Hd (Be hr)
  go_enter Tryz.func178,Tryz.ntmps178
  go_wp2_with (go_at_call 175;refine (aX _ _ _ _).mono ?_;rintro e w' ⟨rfl,rfl⟩)
  go_ret2
  exact ⟨by rw [HD.out];rfl,rfl⟩
 | true =>
  have hb:=aa.1 hr
  obtain ⟨c,rfl⟩:=Int.eq_ofNat_of_zero_le hb.1
  have hc:c<4194304:=by omega
  have HD:=Hd (Bf hc)
  have HN:Hid (pX c=if kI c % 2=0 then (if kJ c=0 then (dataW c,0) else (0,2))
   else if kJ c=0 then (dataW c,1) else if kJ c<=21 then (dataW (c ^^^ 2 ^ (kJ c - 1)),1) else (0,2)):=rfl
  have hs:kJ c<32:=pI c 21 (by omega)
  have ho:kI c<=22:=pJ c 22
  have hx21:bits .xor .i64 (c:Int) 2097152=((c ^^^ 2097152:Nat):Int):=jQ c 2097152 (by omega) (by omega)
  have hx21':c ^^^ 2097152<4194304:=mo (k:=21) hc (by omega)
  generalize hsy:kJ c=s at *
  have HSY:=Hd hsy
  clear hsy
  have HON:Hid (kI c=kI c):=rfl
  generalize hoy:kI c=o at *
  have HOY:=Hd hoy
  clear hoy HON
  rcases (by omega:o % 2=0∨o % 2=1) with ho2|ho2
  ·have hoi:(o:Int) % 2=0:=by omega
   have HO2:=Hd ho2
   clear ho2
   rcases Nat.eq_zero_or_pos s with rfl|hs0
   ·have HV:Hid (pX c=(dataW c,0)):=by unfold Hid;rw [HN.out,if_pos HO2.out,if_pos rfl]
    clear HN
    go_enter Tryz.func178,Tryz.ntmps178
    go_wp2_with (first
     | (go_at_call 175;refine (aX _ _ _ _).mono ?_;rintro e w' ⟨rfl,rfl⟩)
     | (go_at_call 209;refine (jB _ _ hc).mono ?_;rintro e w' ⟨rfl,rfl⟩;rw [HSY.out])
     | (go_at_call 210;refine (mZ _ _ hc).mono ?_;rintro e w' ⟨rfl,rfl⟩;rw [HOY.out])
     | (go_at_call 183;refine (lT _ _ hc).mono ?_;rintro e w' ⟨rfl,rfl⟩))
    go_ret2
    exact ⟨by rw [HD.out,HV.out];simp,rfl⟩
   ·have HV:Hid (pX c=(0,2)):=by unfold Hid;rw [HN.out,if_pos HO2.out,if_neg (by omega)]
    have hs1:((s:Int)==0)=false:=by simp;omega
    clear HN
    go_enter Tryz.func178,Tryz.ntmps178
    go_wp2_with (first
     | (go_at_call 175;refine (aX _ _ _ _).mono ?_;rintro e w' ⟨rfl,rfl⟩)
     | (go_at_call 209;refine (jB _ _ hc).mono ?_;rintro e w' ⟨rfl,rfl⟩;rw [HSY.out])
     | (go_at_call 210;refine (mZ _ _ hc).mono ?_;rintro e w' ⟨rfl,rfl⟩;rw [HOY.out]))
    go_ret2
    exact ⟨by rw [HD.out,HV.out];simp,rfl⟩
  ·have hoi:(o:Int) % 2=1:=by omega
   have HO2:=Hd ho2
   clear ho2
   rcases Nat.eq_zero_or_pos s with rfl|hs0
   ·have HV:Hid (pX c=(dataW c,1)):=by unfold Hid;rw [HN.out,if_neg (by rw [HO2.out];omega),if_pos rfl]
    clear HN
    go_enter Tryz.func178,Tryz.ntmps178
    go_wp2_with (first
     | (go_at_call 175;refine (aX _ _ _ _).mono ?_;rintro e w' ⟨rfl,rfl⟩)
     | (go_at_call 209;refine (jB _ _ hc).mono ?_;rintro e w' ⟨rfl,rfl⟩;rw [HSY.out])
     | (go_at_call 210;refine (mZ _ _ hc).mono ?_;rintro e w' ⟨rfl,rfl⟩;rw [HOY.out])
     | (go_at_call 183;refine (lT _ _ hc).mono ?_;rintro e w' ⟨rfl,rfl⟩))
    go_ret2
    exact ⟨by rw [HD.out,HV.out];simp,rfl⟩
   ·rcases Nat.lt_or_ge 21 s with h21|h21
    ·have HV:Hid (pX c=(0,2)):=by unfold Hid;rw [HN.out,if_neg (by rw [HO2.out];omega),if_neg (by omega),if_neg (by omega)]
     have hs1:((s:Int)==0)=false:=by simp;omega
     clear HN
     go_enter Tryz.func178,Tryz.ntmps178
     go_wp2_with (first
      | (go_at_call 175;refine (aX _ _ _ _).mono ?_;rintro e w' ⟨rfl,rfl⟩)
      | (go_at_call 209;refine (jB _ _ hc).mono ?_;rintro e w' ⟨rfl,rfl⟩;rw [HSY.out])
      | (go_at_call 210;refine (mZ _ _ hc).mono ?_;rintro e w' ⟨rfl,rfl⟩;rw [HOY.out]))
     go_ret2
     exact ⟨by rw [HD.out,HV.out];simp,rfl⟩
    ·have HV:Hid (pX c=(dataW (c ^^^ 2 ^ (s - 1)),1)):=by unfold Hid;rw [HN.out,if_neg (by rw [HO2.out];omega),if_neg (by omega),if_pos h21]
     obtain ⟨k,rfl⟩:∃k,s=k+1:=⟨s - 1,by omega⟩
     have hs1:((k:Int)+1==0)=false:=by simp;omega
     have hwp:wrap64 (2 ^ k)=2 ^ k:=pM (by omega)
     have hxk:bits .xor .i64 (c:Int) (2 ^ k)=((c ^^^ 2 ^ k:Nat):Int):=by
      rw [jY];exact jQ c _ (by omega) (kZ (by omega))
     have hxl:c ^^^ 2 ^ k<4194304:=mo hc (by omega)
     clear HN
     go_enter Tryz.func178,Tryz.ntmps178
     go_wp2_with (first
      | (go_at_call 175;refine (aX _ _ _ _).mono ?_;rintro e w' ⟨rfl,rfl⟩)
      | (go_at_call 209;refine (jB _ _ hc).mono ?_;rintro e w' ⟨rfl,rfl⟩;rw [HSY.out])
      | (go_at_call 210;refine (mZ _ _ hc).mono ?_;rintro e w' ⟨rfl,rfl⟩;rw [HOY.out])
      | (go_at_call 183;refine (lT _ _ hxl).mono ?_;rintro e w' ⟨rfl,rfl⟩))
     go_ret2
     exact ⟨by rw [HD.out,HV.out];simp,rfl⟩
/-! ### repairing -/
theorem Fv (c:Nat):(pX c).1<65536:=by
 unfold pX
 split
 ·split
  ·exact uB c
  ·simp
 ·split
  ·exact uB c
  ·split
   ·exact uB _
   ·simp
theorem yh (code:Int):0<=(jZ code).1/\(jZ code).1<65536:=by
 unfold jZ
 split
 ·have:=Fv code.toNat
  simp only;omega
 ·simp
theorem wu (code:Int) (w:World) :
  Calls Tryz.prog 212 #[.int .i64 code] w fun e w'=>e = .returned (.tuple #[.int .i64 (pY code).1,.int .i64 (pY code).2])/\Below w.heap.size w w':=by
 have hd:=yh code
 have HR:Hid (pY code=if (jZ code).2=1 then (((encW (jZ code).1.toNat:Nat):Int),1) else (code,(jZ code).2)):=rfl
 generalize hx:jZ code=dw at *
 have HX:=Hd hx
 clear hx
 obtain ⟨x,st⟩:=dw
 simp only at hd
 by_cases h1:st=1
 ·subst h1
  obtain ⟨x,rfl⟩:=Int.eq_ofNat_of_zero_le hd.1
  go_enter Tryz.func212,Tryz.ntmps212
  go_wp2_with (first
   | (go_at_call 215;refine (mr _ _).mono ?_;rintro e w' ⟨rfl,rfl⟩;rw [HX.out])
   | (go_at_call 214;refine (qY x _ (by omega)).mono ?_;rintro e w1 ⟨rfl,b1⟩;have B1:=Hd ((by subst b1;exact Below.refl _ _:Below w.heap.size w w1));clear b1))
  go_ret2
  exact ⟨by rw [HR.out];simp,B1.out⟩
 ·have hs:(st==1)=false:=by simpa using h1
  go_enter Tryz.func212,Tryz.ntmps212
  go_wp2_with (first
   | (go_at_call 215;refine (mr _ _).mono ?_;rintro e w' ⟨rfl,rfl⟩;rw [HX.out]))
  go_ret2
  exact ⟨by rw [HR.out,if_neg h1];simp,Below.refl _ _⟩
theorem wC (code:Int) (w:World) :
  Calls Tryz.prog 217 #[.int .i64 code] w fun e w'=>e = .returned (.tuple #[.int .i64 (pY code).1,.int .i64 (pY code).2])/\Below w.heap.size w w':=by
 have hd:=yh code
 have HR:Hid (pY code=if (jZ code).2=1 then (((encW (jZ code).1.toNat:Nat):Int),1) else (code,(jZ code).2)):=rfl
 generalize hx:jZ code=dw at *
 have HX:=Hd hx
 clear hx
 obtain ⟨x,st⟩:=dw
 simp only at hd
 by_cases h1:st=1
 ·subst h1
  obtain ⟨x,rfl⟩:=Int.eq_ofNat_of_zero_le hd.1
  go_enter Tryz.func217,Tryz.ntmps217
  go_wp2_with (first
   | (go_at_call 178;refine (jg _ _).mono ?_;rintro e w' ⟨rfl,rfl⟩;rw [HX.out])
   | (go_at_call 161;refine (mF x _ (by omega)).mono ?_;rintro e w1 ⟨rfl,b1⟩;have B1:=Hd (b1);clear b1))
  go_ret2
  exact ⟨by rw [HR.out];simp,B1.out⟩
 ·have hs:(st==1)=false:=by simpa using h1
  go_enter Tryz.func217,Tryz.ntmps217
  go_wp2_with (first
   | (go_at_call 178;refine (jg _ _).mono ?_;rintro e w' ⟨rfl,rfl⟩;rw [HX.out]))
  go_ret2
  exact ⟨by rw [HR.out,if_neg h1];simp,Below.refl _ _⟩
def Bg (c:Int):Int:=if bits .and .i64 c 1==1 then bits .xor .i64 (c / 2) 33800 else c / 2
def qZ:Nat→Int→Int
 | 0,c=>c
 | k+1,c=>Bg (qZ k c)
def zx (c x:Int):Int:=qZ 16 (bits .xor .i64 c (bits .and .i64 x 65535))
def mG (xs:List Int) (k:Nat):Int:=(xs.take k).foldl zx 65535
def Ji (xs:List Int):Int:=xs.foldl zx 65535
theorem zy (A:Option Addr) (n c:Nat) (xs:List Int) (w:World) (hA:bN w A n xs) (hn:n<=1099511627776) :
  Calls Tryz.prog 216 #[.slice A n c] w fun e w'=>e = .returned (.int .i64 (Ji xs))/\Below w.heap.size w w':=by
 obtain ⟨hx,hA⟩:=hA
 have HX:=Hd hx
 clear hx
 go_enter Tryz.func216,Tryz.ntmps216
 go_wp2_with fail
 go_loop [3,10] (fun v i=>∃k:Nat,k<=n/\i = .int .i64 k/\v = .int .i64 (mG xs k)) (fun _ i=>n - (intOf i).toNat)
 case atStart=>exact ⟨0,Nat.zero_le _,rfl,rfl⟩
 case round =>
  obtain ⟨k,hk,rfl,rfl⟩:=hrel
  by_cases hlt:k<n
  ·obtain ⟨b,o,rfl,hb,hc⟩:=hA (by omega)
   have hck:=hc k hlt
   clear hc
   have hs:mG xs (k+1)=zx (mG xs k) (xs[k]?.getD 0):=by
    have:k<xs.length:=by rw [HX.out];exact hlt
    rw [mG,List.take_succ_eq_append_getElem this,List.foldl_append,List.getElem?_eq_getElem this]
    rfl
   have HS:=Hd hs
   clear hs
   generalize xs[k]?.getD 0=x at *
   generalize mG xs k=c0 at *
   go_wp2_with fail
   go_loop [3,6] (fun v i=>∃j:Nat,j<=16/\i = .int .i64 j/\v = .int .i64 (qZ j (bits .xor .i64 c0 (bits .and .i64 x 65535)))) (fun _ i=>16 - (intOf i).toNat)
   case atStart=>exact ⟨0,Nat.zero_le _,rfl,rfl⟩
   case round =>
    obtain ⟨j,hj,rfl,rfl⟩:=hrel
    by_cases hlj:j<16
    ·have hi:=qZ.eq_2 (bits .xor .i64 c0 (bits .and .i64 x 65535)) j
     have HI:=Hd hi
     clear hi
     generalize qZ j (bits .xor .i64 c0 (bits .and .i64 x 65535))=c2 at *
     by_cases ho:(bits .and .i64 c2 1==1)=true
     ·go_wp2
      go_round
      case rel=>exact ⟨j+1,by omega,by go_num,by rw [HI.out,Bg,if_pos ho]⟩
      case measure=>simp [intOf];omega
     ·go_wp2
      go_round
      case rel=>exact ⟨j+1,by omega,by go_num,by rw [HI.out,Bg,if_neg ho]⟩
      case measure=>simp [intOf];omega
    ·obtain rfl:j=16:=by omega
     go_wp2
     go_round
     case rel=>exact ⟨k+1,by omega,by go_num,by rw [HS.out];rfl⟩
     case measure=>simp [intOf];omega
  ·have hkn:k=n:=by omega
   subst hkn
   go_wp2
   go_ret
   exact ⟨ag (by rw [mG,List.take_of_length_le (by rw [HX.out];exact Nat.le_refl _)];rfl),Below.refl _ _⟩
theorem yL (A:Option Addr) (n c:Nat) (xs:List Int) (w:World) (hA:bN w A n xs) (hn:n<=1099511627776) :
  Calls Tryz.prog 211 #[.slice A n c] w fun e w'=>e = .returned (.int .i64 (Ji xs))/\Below w.heap.size w w':=by
 obtain ⟨hx,hA⟩:=hA
 have HX:=Hd hx
 clear hx
 go_enter Tryz.func211,Tryz.ntmps211
 go_wp2_with fail
 go_loop [3,4] (fun v i=>∃k:Nat,k<=n/\i = .int .i64 k/\v = .int .i64 (mG xs k)) (fun _ i=>n - (intOf i).toNat)
 case atStart=>exact ⟨0,Nat.zero_le _,rfl,rfl⟩
 case round =>
  obtain ⟨k,hk,rfl,rfl⟩:=hrel
  by_cases hlt:k<n
  ·obtain ⟨b,o,rfl,hb,hc⟩:=hA (by omega)
   have hck:=hc k hlt
   clear hc
   have hs:mG xs (k+1)=zx (mG xs k) (xs[k]?.getD 0):=by
    have:k<xs.length:=by rw [HX.out];exact hlt
    rw [mG,List.take_succ_eq_append_getElem this,List.foldl_append,List.getElem?_eq_getElem this]
    rfl
   have HS:=Hd hs
   clear hs
   generalize xs[k]?.getD 0=x at *
   generalize mG xs k=c0 at *
   go_wp2_with fail
   go_loop [3,5] (fun v i=>∃j:Nat,j<=16/\i = .int .i64 j/\v = .int .i64 (qZ j (bits .xor .i64 c0 (bits .and .i64 x 65535)))) (fun _ i=>16 - (intOf i).toNat)
   case atStart=>exact ⟨0,Nat.zero_le _,rfl,rfl⟩
   case round =>
    obtain ⟨j,hj,rfl,rfl⟩:=hrel
    by_cases hlj:j<16
    ·have hi:=qZ.eq_2 (bits .xor .i64 c0 (bits .and .i64 x 65535)) j
     have HI:=Hd hi
     clear hi
     generalize qZ j (bits .xor .i64 c0 (bits .and .i64 x 65535))=c2 at *
     by_cases ho:(bits .and .i64 c2 1==1)=true
     ·go_wp2
      go_round
      case rel=>exact ⟨j+1,by omega,by go_num,by rw [HI.out,Bg,if_pos ho]⟩
      case measure=>simp [intOf];omega
     ·go_wp2
      go_round
      case rel=>exact ⟨j+1,by omega,by go_num,by rw [HI.out,Bg,if_neg ho]⟩
      case measure=>simp [intOf];omega
    ·obtain rfl:j=16:=by omega
     go_wp2
     go_round
     case rel=>exact ⟨k+1,by omega,by go_num,by rw [HS.out];rfl⟩
     case measure=>simp [intOf];omega
  ·have hkn:k=n:=by omega
   subst hkn
   go_wp2
   go_ret
   exact ⟨ag (by rw [mG,List.take_of_length_le (by rw [HX.out];exact Nat.le_refl _)];rfl),Below.refl _ _⟩
theorem qa {f:List Int} {k:Nat} (h:k<f.length):eU (f.take (k+1))=eU (f.take k)++[Dr (f[k]?.getD 0)]:=by
 unfold eU
 rw [List.take_succ_eq_append_getElem h,List.map_append,List.getElem?_eq_getElem h]
 rfl
theorem yM (f:List Int):(eU f).length=f.length:=by simp [eU]
theorem uw {c:Int} {x:Nat} (h:c=(x:Int)):Dr c=((Cw.dataW x:Nat):Int):=by rw [Dr,h,Int.toNat_natCast]
def EH (f:List Int):Prop:=∀j,j<f.length→0<=f[j]?.getD 0/\f[j]?.getD 0<=4194303
theorem EI {f:List Int} {count:Int} (h:bJ f count 4194303=true):EH f/\(f.length:Int)=count:=by
 simp only [bJ,Bool.and_eq_true,decide_eq_true_eq] at h
 exact ⟨fun j hj=>lJ h.2 hj,h.1⟩
theorem jw {d:Dev} {fs:List (List Int)} (h:ae d fs=true) {j:Nat} (hj:j<fs.length):EH (fs[j]?.getD [])/\((fs[j]?.getD []).length:Int)=fwI d:=EI ((af h).2.2 j hj)
theorem qb (A:Option Addr) (n c:Nat) (f:List Int) (w:World) (h:bN w A n f) (hin:EH f) (hn:n<=16777216) :
  Calls Tryz.prog 136 #[.slice A n c] w fun e w'=>∃A' c',e = .returned (.slice A' n c')/\Own w.heap.size w' A' n c' (eU f)/\Below w.heap.size w w':=by
 obtain ⟨hx,hA⟩:=h
 have HX:=Hd hx
 have HIN:=Hd hin
 clear hx hin
 go_enter Tryz.func136,Tryz.ntmps136
 go_wp2_with fail
 go_loopw [3,4] (fun v i wr=>∃(k:Nat) (A':Option Addr) (c':Nat),k<=n/\i = .int .i64 k/\v = .slice A' k c'/\Own w.heap.size wr A' k c' (eU (f.take k))/\Below w.heap.size w wr) (fun _ i _=>n - (intOf i).toNat)
 case atStart=>exact ⟨0,_,0,Nat.zero_le _,rfl,rfl,by simpa [eU] using Own.new0 (Nat.le_refl _),aB (Below.refl _ _) _⟩
 case round =>
  obtain ⟨k,A',c',hk,rfl,rfl,ho,hbe⟩:=hrel
  have HO:=Hd ho
  have HE:=Hd hbe
  clear ho
  by_cases hlt:k<n
  ·obtain ⟨b,o,rfl,hb,hc⟩:=hA (by omega)
   have hck:=hc k hlt
   rw [←hbe.cell (p:=⟨b,o+k,none⟩) hb] at hck
   have hs:=hbe.size
   have hx:=HIN.out k (by rw [HX.out];exact hlt)
   have HT:=Hd (qa (f:=f) (k:=k) (by rw [HX.out];exact hlt))
   clear hc hbe
   generalize f[k]?.getD 0=x at *
   obtain ⟨x,rfl⟩:=Int.eq_ofNat_of_zero_le hx.1
   have HD:=Hd (uw (c:=(x:Int)) rfl)
   go_wp2_with (first
    | ((with_reducible refine (lT x _ (by omega)).mono ?_);rintro e w' ⟨rfl,rfl⟩)
    | (at_builtin;refine av rfl _ _ rfl w.heap.size A' k c' (eU (f.take k)) _ rfl HO.out rfl (by omega) hs HE.out ?_;rintro g4 cap w4 o4 b4 gr4 hat4))
   go_roundw
   case rel=>exact ⟨k+1,_,_,by omega,by go_num,rfl,by rw [HT.out,HD.out];exact o4,b4⟩
   case measure=>simp [intOf];omega
  ·have hkn:k=n:=by omega
   subst hkn
   go_wp2_with fail
   go_ret
   exact ⟨_,_,rfl,by have:=HO.out;rwa [List.take_of_length_le (by rw [HX.out];exact Nat.le_refl _)] at this,HE.out⟩
def nT (fs:List (List Int)) (ts:List Int):Bool:=(List.range ts.length).all fun j=>inR (ts[j]?.getD 0) 0 ((fs.length:Int) - 1)
theorem vT {fs:List (List Int)} {ts:List Int} {k:Nat} (hk:k<ts.length) (h:inR (ts[k]?.getD 0) 0 ((fs.length:Int) - 1)=false):nT fs ts=false:=by
 cases hs:nT fs ts with
 | false=>rfl
 | true =>
  simp only [nT,List.all_eq_true,List.mem_range] at hs
  rw [hs k hk] at h
  cases h
theorem uC {fs:List (List Int)} {ts:List Int} (h:∀j,j<ts.length→inR (ts[j]?.getD 0) 0 ((fs.length:Int) - 1)=true):nT fs ts=true:=by
 simp only [nT,List.all_eq_true,List.mem_range]
 exact h
def kL (d:Dev) (fs:List (List Int)) (ts:List Int):Int:=if (ae d fs && nT fs ts)=true then Ji (nu fs ts ts.length) else -1
theorem uD (d:Dev) (A:Option Addr) (n c:Nat) (fs:List (List Int)) (T:Option Addr) (m c1:Nat) (ts:List Int) (w:World) (hA:eD w A n fs) (hT:bN w T m ts) (hz:bF fs<=1099511627776) (hm:m<=16777216) :
  Calls Tryz.prog 171 #[.agg #[.int .i64 d.W,.int .i64 d.H,.int .i64 d.T,.int .i64 d.R],.slice A n c,.slice T m c1] w fun e w'=>e = .returned (.int .i64 (kL d fs ts))/\Below w.heap.size w w':=by
 have hB0:Below w.heap.size w (w.alloc (.cells #[.int .i64 d.W,.int .i64 d.H,.int .i64 d.T,.int .i64 d.R] 25)):=aB (Below.refl _ _) _
 have hX:=hA.1
 obtain ⟨hn,hrow⟩:=gU hX hz
 have HX:=Hd hX
 have HI:=Hd hA
 have HJ:=Hd hT
 have hY:=hT.1
 have HY:=Hd hY
 clear hA hX hT hY hrow
 go_enter Tryz.func171,Tryz.ntmps171
 go_wp2_with fail
 refine (gV d A n c fs _ (HI.out.below hB0) hz).mono ?_
 rintro e w1 ⟨rfl,b1⟩
 have hs1:=b1.size
 simp only [World.size_alloc] at hs1
 have B1:=Hd (aA hB0 b1)
 clear b1
 cases hf:ae d fs with
 | false =>
  have HF:=Hd hf
  clear hf
  go_wp2_with fail
  go_ret
  exact ⟨ag (by rw [kL,HF.out];simp),B1.out⟩
 | true =>
  have hfb:=jG (af hf).1
  obtain ⟨F,hF⟩:∃F:Nat,fwI d=(F:Int):=⟨(fwI d).toNat,by omega⟩
  rw [hF] at hfb
  have HFW:=Hd hF
  have HF:=Hd hf
  clear hf hF
  go_wp2_with fail
  obtain ⟨_,hAr⟩:=HI.out.below B1.out
  obtain ⟨_,hTr⟩:=HJ.out.below B1.out
  go_loopw [7,18] (fun v i wr=>∃(k:Nat) (A':Option Addr) (l c':Nat),k<=m/\i = .int .i64 k/\v = .slice A' l c'/\l<=11 * k/\Own w1.heap.size wr A' l c' (nu fs ts k)/\Below w1.heap.size w1 wr/\∀j,j<k→inR (ts[j]?.getD 0) 0 ((n:Int) - 1)=true) (fun _ i _=>m - (intOf i).toNat)
  case atStart=>exact ⟨0,none,0,0,Nat.zero_le _,rfl,rfl,Nat.zero_le _,Own.nil,Below.refl _ _,by intro j hj;omega⟩
  case round =>
   obtain ⟨k,A',l,c',hk,rfl,rfl,hl,ho,hbe,hall⟩:=hrel
   have HO:=Hd ho
   have HE:=Hd hbe
   have HALL:=Hd hall
   clear ho hall
   by_cases hlt:k<m
   ·obtain ⟨b,o,rfl,hb,hc⟩:=hTr (by omega)
    have hck:=hc k hlt
    rw [←hbe.cell (p:=⟨b,o+k,none⟩) hb] at hck
    have HBD:Hid (inR (ts[k]?.getD 0) 0 ((n:Int) - 1)=false→nT fs ts=false):=fun h=>vT (by rw [HY.out];exact hlt) (by rw [HX.out];exact h)
    have HG:Hid (inR (ts[k]?.getD 0) 0 ((n:Int) - 1)=true→∀j,j<k+1→inR (ts[j]?.getD 0) 0 ((n:Int) - 1)=true):=fun h=>gZ HALL.out h
    have HW:=Hd (nu.eq_2 fs ts k)
    clear hc hbe
    generalize ts[k]?.getD 0=t at *
    cases hin:inR t 0 ((n:Int) - 1) with
    | false =>
     have HB':=Hd (HBD.out hin)
     clear HG HBD
     go_wp2_with (go_at_call 116;refine (aN _ _ _ _).mono ?_;rintro e w' ⟨rfl,rfl⟩)
     go_ret
     exact ⟨ag (by rw [kL,HF.out,HB'.out];simp),aA B1.out HE.out⟩
    | true =>
     have HG':=Hd (HG.out hin)
     have htb:=aa.1 hin
     clear HG HBD
     obtain ⟨b2,o2,rfl,hb2,hc2⟩:=hAr (by omega)
     obtain ⟨A1,m1,c3,hck2,hI1⟩:=hc2 t.toNat (by omega)
     rw [←HE.out.cell (p:=⟨b2,o2+t.toNat,none⟩) hb2] at hck2
     have hfr:=jw HF.out (j:=t.toNat) (by rw [HX.out];omega)
     have hm1:m1=F:=by have:=hfr.2;rw [hI1.1,HFW.out] at this;omega
     obtain ⟨hxf,hAf⟩:=hI1
     have HXF:=Hd hxf
     have HIN:=Hd hfr.1
     subst hm1
     clear hc2 hxf hfr
     generalize fs[t.toNat]?.getD []=f at *
     go_wp2_with (go_at_call 116;refine (aN _ _ _ _).mono ?_;rintro e w' ⟨rfl,rfl⟩)
     clear hck hck2
     go_loopw [7,33] (fun v i wr=>∃(j:Nat) (A':Option Addr) (l' c':Nat),j<=m1/\i = .int .i64 j/\v = .slice A' l' c'/\l'=l+j/\Own w1.heap.size wr A' l' c' (nu fs ts k++eU (f.take j))/\Below w1.heap.size w1 wr) (fun _ i _=>m1 - (intOf i).toNat)
     case atStart=>exact ⟨0,_,_,_,Nat.zero_le _,rfl,rfl,rfl,by simpa [eU] using HO.out,HE.out⟩
     case round =>
      obtain ⟨j,A2,l2,c2,hj,rfl,rfl,hl2,ho2,hbe2⟩:=hrel
      have HL2:=Hd hl2
      have hl2':l2<=11 * k+m1:=by omega
      have HO2:=Hd ho2
      have HE2:=Hd hbe2
      have hs2:=hbe2.size
      clear ho2 hl2
      by_cases hlj:j<m1
      ·obtain ⟨b3,o3,rfl,hb3,hc3⟩:=hAf (by omega)
       have hck3:=hc3 j hlj
       rw [←hbe2.cell (p:=⟨b3,o3+j,none⟩) hb3] at hck3
       have hx:=HIN.out j (by rw [HXF.out];exact hlj)
       have HT:=Hd (qa (f:=f) (k:=j) (by rw [HXF.out];exact hlj))
       clear hc3 hbe2
       generalize f[j]?.getD 0=x at *
       obtain ⟨x,rfl⟩:=Int.eq_ofNat_of_zero_le hx.1
       have HD:=Hd (uw (c:=(x:Int)) rfl)
       go_wp2_with (first
        | ((with_reducible refine (kK x _ (by omega)).mono ?_);rintro e w' ⟨rfl,rfl⟩)
        | (at_builtin;refine av rfl _ _ rfl w1.heap.size A2 l2 c2 (nu fs ts k++eU (f.take j)) _ rfl HO2.out rfl (by omega) hs2 HE2.out ?_;rintro g4 cap w4 o4 b4 gr4 hat4))
       go_roundw
       case rel=>exact ⟨j+1,_,_,_,by omega,by go_num,rfl,by have:=HL2.out;omega,by rw [HT.out,HD.out,←List.append_assoc];exact o4,b4⟩
       case measure=>simp [intOf];omega
      ·have hjn:j=m1:=by omega
       subst hjn
       go_wp2_with fail
       go_roundw
       case rel=>exact ⟨k+1,_,_,_,by omega,by go_num,rfl,by have:=HL2.out;omega,by rw [HW.out];have:=HO2.out;rwa [List.take_of_length_le (by rw [HXF.out];exact Nat.le_refl _)] at this,HE2.out,HG'.out⟩
       case measure=>simp [intOf];omega
   ·have hkm:k=m:=by omega
    subst hkm
    go_wp2_with fail
    refine (zy A' l c' _ _ HO.out.ints (by omega)).mono ?_
    rintro e w2 ⟨rfl,b2⟩
    go_wp2_with fail
    go_ret
    exact ⟨ag (by rw [kL,HF.out,uC (by rw [HY.out,HX.out];exact HALL.out),HY.out];simp),aA (aA B1.out HE.out) b2⟩
theorem jm (d:Dev) (A:Option Addr) (n c:Nat) (fs:List (List Int)) (T:Option Addr) (m c1:Nat) (ts:List Int) (w:World) (hA:eD w A n fs) (hT:bN w T m ts) (hz:bF fs<=1099511627776) (hm:m<=16777216) :
  Calls Tryz.prog 163 #[.agg #[.int .i64 d.W,.int .i64 d.H,.int .i64 d.T,.int .i64 d.R],.slice A n c,.slice T m c1] w fun e w'=>e = .returned (.int .i64 (kL d fs ts))/\Below w.heap.size w w':=by
 have hB0:Below w.heap.size w (w.alloc (.cells #[.int .i64 d.W,.int .i64 d.H,.int .i64 d.T,.int .i64 d.R] 25)):=aB (Below.refl _ _) _
 have hX:=hA.1
 obtain ⟨hn,hrow⟩:=gU hX hz
 have HX:=Hd hX
 have HI:=Hd hA
 have HJ:=Hd hT
 have hY:=hT.1
 have HY:=Hd hY
 clear hA hX hT hY hrow
 go_enter Tryz.func163,Tryz.ntmps163
 go_wp2_with fail
 refine (iA d A n c fs _ (HI.out.below hB0) hz).mono ?_
 rintro e w1 ⟨rfl,b1⟩
 have hs1:=b1.size
 simp only [World.size_alloc] at hs1
 have B1:=Hd (aA hB0 b1)
 clear b1
 cases hf:ae d fs with
 | false =>
  have HF:=Hd hf
  clear hf
  go_wp2_with fail
  go_ret
  exact ⟨ag (by rw [kL,HF.out];simp),B1.out⟩
 | true =>
  have hfb:=jG (af hf).1
  obtain ⟨F,hF⟩:∃F:Nat,fwI d=(F:Int):=⟨(fwI d).toNat,by omega⟩
  rw [hF] at hfb
  have HFW:=Hd hF
  have HF:=Hd hf
  clear hf hF
  go_wp2_with fail
  obtain ⟨_,hAr⟩:=HI.out.below B1.out
  obtain ⟨_,hTr⟩:=HJ.out.below B1.out
  go_loopw [7,8] (fun v i wr=>∃(k:Nat) (A':Option Addr) (l c':Nat),k<=m/\i = .int .i64 k/\v = .slice A' l c'/\l<=11 * k/\Own w1.heap.size wr A' l c' (nu fs ts k)/\Below w1.heap.size w1 wr/\∀j,j<k→inR (ts[j]?.getD 0) 0 ((n:Int) - 1)=true) (fun _ i _=>m - (intOf i).toNat)
  case atStart=>exact ⟨0,_,0,0,Nat.zero_le _,rfl,rfl,Nat.zero_le _,Own.new0 (Nat.le_refl _),aB (Below.refl _ _) _,by intro j hj;omega⟩
  case round =>
   obtain ⟨k,A',l,c',hk,rfl,rfl,hl,ho,hbe,hall⟩:=hrel
   have HO:=Hd ho
   have HE:=Hd hbe
   have HALL:=Hd hall
   clear ho hall
   by_cases hlt:k<m
   ·obtain ⟨b,o,rfl,hb,hc⟩:=hTr (by omega)
    have hck:=hc k hlt
    rw [←hbe.cell (p:=⟨b,o+k,none⟩) hb] at hck
    have HBD:Hid (inR (ts[k]?.getD 0) 0 ((n:Int) - 1)=false→nT fs ts=false):=fun h=>vT (by rw [HY.out];exact hlt) (by rw [HX.out];exact h)
    have HG:Hid (inR (ts[k]?.getD 0) 0 ((n:Int) - 1)=true→∀j,j<k+1→inR (ts[j]?.getD 0) 0 ((n:Int) - 1)=true):=fun h=>gZ HALL.out h
    have HW:=Hd (nu.eq_2 fs ts k)
    clear hc hbe
    generalize ts[k]?.getD 0=t at *
    cases hin:inR t 0 ((n:Int) - 1) with
    | false =>
     have HB':=Hd (HBD.out hin)
     clear HG HBD
     rcases gF.1 hin with h|h
     ·have hd:decide (t<0)=true:=by simp;omega
      go_wp2_with fail
      go_ret
      exact ⟨ag (by rw [kL,HF.out,HB'.out];simp),aA B1.out HE.out⟩
     ·by_cases h0:t<0
      ·have hd:decide (t<0)=true:=by simp;omega
       go_wp2_with fail
       go_ret
       exact ⟨ag (by rw [kL,HF.out,HB'.out];simp),aA B1.out HE.out⟩
      ·have hd:decide (t<0)=false:=by simp;omega
       have hd':decide (t≥(n:Int))=true:=by simp;omega
       go_wp2_with fail
       go_ret
       exact ⟨ag (by rw [kL,HF.out,HB'.out];simp),aA B1.out HE.out⟩
    | true =>
     have HG':=Hd (HG.out hin)
     have htb:=aa.1 hin
     clear HG HBD
     obtain ⟨b2,o2,rfl,hb2,hc2⟩:=hAr (by omega)
     obtain ⟨A1,m1,c3,hck2,hI1⟩:=hc2 t.toNat (by omega)
     rw [←HE.out.cell (p:=⟨b2,o2+t.toNat,none⟩) hb2] at hck2
     have hfr:=jw HF.out (j:=t.toNat) (by rw [HX.out];omega)
     have hm1:m1=F:=by have:=hfr.2;rw [hI1.1,HFW.out] at this;omega
     have HJ1:=Hd (hI1.below HE.out)
     have HIN:=Hd hfr.1
     subst hm1
     have hd:decide (t<0)=false:=by simp;omega
     have hd':decide (t≥(n:Int))=false:=by simp;omega
     have hs0:=HE.out.size
     clear hc2 hfr hI1
     generalize fs[t.toNat]?.getD []=f at *
     go_wp2_with fail
     refine (qb A1 m1 c3 f _ HJ1.out HIN.out (by omega)).mono ?_
     rintro e w2 ⟨A2,c2,rfl,o2',b2'⟩
     have hs2:=b2'.size
     have O2:=Hd o2'
     have E2:=Hd (aA HE.out b2')
     have OO:=Hd (HO.out.below b2')
     clear o2' b2'
     go_wp2_with (at_builtin;refine bP rfl _ _ rfl w1.heap.size A' l c' _ rfl OO.out A2 m1 c2 _ rfl O2.out.ints (by omega) (by omega) E2.out ?_;rintro A4 c4 w4 o4 b4 gr4)
     go_roundw
     case rel=>exact ⟨k+1,_,_,_,by omega,by go_num,rfl,by omega,by rw [HW.out];exact o4,b4,HG'.out⟩
     case measure=>simp [intOf];omega
   ·have hkm:k=m:=by omega
    subst hkm
    go_wp2_with fail
    refine (yL A' l c' _ _ HO.out.ints (by omega)).mono ?_
    rintro e w2 ⟨rfl,b2⟩
    go_wp2_with fail
    go_ret
    exact ⟨ag (by rw [kL,HF.out,uC (by rw [HY.out,HX.out];exact HALL.out),HY.out];simp),aA (aA B1.out HE.out) b2⟩
end Go.Proofs.YtignkfhdkcgkgaaGreat
