/- Codewords: the walks of the program's and the reference's functions. -/
import Derived.Test.YtignkfhdkcgkgaaGreatTilePure
namespace Go.Proofs.YtignkfhdkcgkgaaGreat
set_option maxHeartbeats 2000000
set_option maxRecDepth 100000
open Go.RowKit Cw
theorem mO (x:Nat) (h:x<9223372036854775808):bits .and .i64 (x:Int) 1=((x % 2:Nat):Int):=by
 have:=mZ x 1 h (by omega)
 rw [Nat.and_one_is_mod] at this
 exact this
theorem jC (c i:Nat) (h:c<9223372036854775808):bits .and .i64 ((c:Int) / 2 ^ i) 1=((bit c i:Nat):Int):=by
 have e:((c:Int) / 2 ^ i)=((c / 2 ^ i:Nat):Int):=by rw [Int.natCast_ediv];simp
 rw [e,mO _ (Nat.lt_of_le_of_lt (Nat.div_le_self _ _) h)]
 rfl
theorem uO (p:Nat) (w:World) (h0:1<=p) (h1:p<=1000) :
  Calls Tryz.prog 223 #[.int .i64 p] w fun e w'=>e = .returned (.bool (isP p))/\w=w':=by
 have hb:bits .and .i64 (p:Int) ((p:Int) - 1)=((p &&& (p - 1):Nat):Int):=by
  rw [←mZ p (p - 1) (by omega) (by omega)]
  congr 1
  omega
 go_enter Tryz.func223,Tryz.ntmps223
 go_wp2
 go_ret
 exact ⟨aH (by unfold isP;cases h:(p &&& (p - 1))==0 <;> simp_all),rfl⟩
theorem iX (c : Nat) (w : World) (h : c < 4194304) :
    Calls Tryz.prog 230 #[.int .i64 c] w fun e w' => e = .returned (.int .i64 (jb c)) /\ w = w' := by
  go_enter Tryz.func230, Tryz.ntmps230
  go_wp2_with fail
  go_loop [3, 4] (fun v p => ∃ i : Nat, i <= 21 /\ p = .int .i64 ((i : Int) + 1) /\ v = .int .i64 (nT c i)) (fun _ p => 22 - (intOf p).toNat)
  case atStart => exact ⟨0, by omega, rfl, rfl⟩
  case round =>
    obtain ⟨i, hi, rfl, rfl⟩ := hrel
    by_cases hlt : i < 21
    · have hs := nT.eq_2 c i
      have hlo := nV c i (by omega)
      have hsb := jC c i (by omega)
      have HS := Hd hs
      clear hs
      have hx := jW (nT c i) (i + 1) (by omega) (by omega)
      have HXR := Hd hx
      clear hx
      go_wp2_with fail
      · have hb : bit c i = 1 := by have : ((bit c i : Nat) : Int) = 1 := by simpa using ‹(((bit c i : Nat) : Int) == 1) = true›
                                    omega
        go_round
        case rel => exact ⟨i + 1, by omega, by go_num, by rw [HS.out, if_pos hb, ← HXR.out]; simp⟩
        case measure => simp [intOf]; omega
      · have hb : ¬ bit c i = 1 := by have : ¬ ((bit c i : Nat) : Int) = 1 := by simpa using ‹(((bit c i : Nat) : Int) == 1) = false›
                                      omega
        go_round
        case rel => exact ⟨i + 1, by omega, by go_num, by rw [HS.out, if_neg hb]⟩
        case measure => simp [intOf]; omega
    · obtain rfl : i = 21 := by omega
      go_wp2_with fail
      go_ret
      exact ⟨rfl, rfl⟩
theorem iG (c : Nat) (w : World) (h : c < 4194304) :
    Calls Tryz.prog 209 #[.int .i64 c] w fun e w' => e = .returned (.int .i64 (jb c)) /\ w = w' := by
  have hr : inR (c : Int) 0 4194303 = true := ak.2 ⟨by omega, by omega⟩
  go_enter Tryz.func209, Tryz.ntmps209
  go_wp2_with (go_at_call 175; refine (aW _ _ _ _).mono ?_; rintro e w' ⟨rfl, rfl⟩)
  go_loop [3, 4] (fun v p => ∃ i : Nat, i <= 21 /\ p = .int .i64 ((i : Int) + 1) /\ v = .int .i64 (nT c i)) (fun _ p => 22 - (intOf p).toNat)
  case atStart => exact ⟨0, by omega, rfl, rfl⟩
  case round =>
    obtain ⟨i, hi, rfl, rfl⟩ := hrel
    by_cases hlt : i < 21
    · have hs := nT.eq_2 c i
      have hlo := nV c i (by omega)
      have hsb := jC c i (by omega)
      have HS := Hd hs
      clear hs
      have hx := jW (nT c i) (i + 1) (by omega) (by omega)
      have HXR := Hd hx
      clear hx
      go_wp2_with fail
      · have hb : bit c i = 1 := by have : ((bit c i : Nat) : Int) = 1 := by simpa using ‹(((bit c i : Nat) : Int) == 1) = true›
                                    omega
        go_round
        case rel => exact ⟨i + 1, by omega, by go_num, by rw [HS.out, if_pos hb, ← HXR.out]; simp⟩
        case measure => simp [intOf]; omega
      · have hb : ¬ bit c i = 1 := by have : ¬ ((bit c i : Nat) : Int) = 1 := by simpa using ‹(((bit c i : Nat) : Int) == 1) = false›
                                      omega
        go_round
        case rel => exact ⟨i + 1, by omega, by go_num, by rw [HS.out, if_neg hb]⟩
        case measure => simp [intOf]; omega
    · obtain rfl : i = 21 := by omega
      go_wp2_with fail
      go_ret
      exact ⟨rfl, rfl⟩
theorem ru (p:Nat) (w:World) (h0:1<=p) (h1:p<=1000) :
  Calls Tryz.prog 208 #[.int .i64 p] w fun e w'=>e = .returned (.bool (isP p))/\w=w':=by
 have hb:bits .and .i64 (p:Int) ((p:Int) - 1)=((p &&& (p - 1):Nat):Int):=by
  rw [←mZ p (p - 1) (by omega) (by omega)]
  congr 1
  omega
 go_enter Tryz.func208,Tryz.ntmps208
 go_wp2
 go_ret
 exact ⟨aH (by unfold isP;cases h:(p &&& (p - 1))==0 <;> simp_all),rfl⟩
theorem ry {b k:Nat} (hb:b<=1) (hk:k<=61):wrap64 ((b:Int) * 2 ^ k)=((b * 2 ^ k:Nat):Int):=by
 have hp:=jm (show k<=62 by omega)
 rw [jo]
 generalize 2 ^ k=p at *
 rw [←Int.natCast_mul]
 have:b * p<=p:=by
  rcases Nat.lt_or_ge 0 b with h|h
  ·obtain rfl:b=1:=by omega
   omega
  ·obtain rfl:b=0:=by omega
   omega
 exact IntWalk.wrap64_in _ ⟨by omega,by omega⟩
theorem pJ {a b k:Nat} (ha:a<2 ^ k) (hb:b<=1) (hk:k<=61):bits .or .i64 (a:Int) (wrap64 ((b:Int) * 2 ^ k))=((a+b * 2 ^ k:Nat):Int):=by
 rw [ry hb hk]
 have hp:=jm (show k<=62 by omega)
 rcases Nat.lt_or_ge 0 b with h|h
 ·obtain rfl:b=1:=by omega
  rw [Nat.one_mul,gz a (2 ^ k) (by omega) hp,GA a k ha]
 ·obtain rfl:b=0:=by omega
  rw [Nat.zero_mul,gz a 0 (by omega) (by omega),Nat.or_zero,Nat.add_zero]
theorem qI {a b k:Nat} (ha:a<2 ^ k) (hb:b<=1) (hk:k<=60):wrap64 ((a:Int)+wrap64 ((b:Int) * 2 ^ k))=((a+b * 2 ^ k:Nat):Int):=by
 rw [ry hb (by omega)]
 have h1:=oQ ha hb
 have h2:=jm (show k+1<=62 by omega)
 rw [←Int.natCast_add]
 generalize a+b * 2 ^ k=q at *
 exact IntWalk.wrap64_in _ ⟨by omega,by omega⟩
theorem jc (c:Nat) (w:World) (h:c<4194304) :
  Calls Tryz.prog 191 #[.int .i64 c] w fun e w'=>e = .returned (.int .i64 (dataW c))/\w=w':=by
 go_enter Tryz.func191,Tryz.ntmps191
 go_wp2_with fail
 go_loop [3,4,5] (fun v k p=>∃i:Nat,i<=21/\p = .int .i64 ((i:Int)+1)/\k = .int .i64 (kTo i)/\v = .int .i64 (gD c i)) (fun _ _ p=>22 - (intOf p).toNat)
 case atStart=>exact ⟨0,by omega,rfl,rfl,rfl⟩
 case round =>
  obtain ⟨i,hi,rfl,rfl,rfl⟩:=hrel
  by_cases hlt:i<21
  ·skip
   have hs:=gD.eq_2 c i
   have hk:=kTo.eq_2 i
   have hlo:=qF c i
   have hkl:=zP i
   have hsb:=jC c i (by omega)
   have hor:=pJ hlo (fP c i) (show kTo i<=61 by omega)
   have hadd:=qI hlo (fP c i) (show kTo i<=60 by omega)
   have HS:=Hd hs
   have HK:=Hd hk
   have HOR:=Hd hor
   have HADD:=Hd hadd
   clear hs hk hlo hor hadd
   have hcp:=uO (i+1)
   simp only [Int.natCast_add,Int.natCast_one] at hcp
   have HCP:=Hd hcp
   clear hcp
   cases hp:isP (i+1) with
   | true =>
    have HP:=Hd hp
    go_wp2_with (go_at_call 223;refine (HCP.out _ (by omega) (by omega)).mono ?_;rintro e w' ⟨rfl,rfl⟩)
    go_round
    case rel=>exact ⟨i+1,by omega,by go_num,by rw [HK.out,HP.out];simp,by rw [HS.out,HP.out];simp⟩
    case measure=>simp [intOf];omega
   | false =>
    have HP:=Hd hp
    go_wp2_with (go_at_call 223;refine (HCP.out _ (by omega) (by omega)).mono ?_;rintro e w' ⟨rfl,rfl⟩)
    go_round
    case rel=>exact ⟨i+1,by omega,by go_num,by rw [HK.out,HP.out];simp,by rw [HS.out,HP.out];(first|rw [HOR.out]|rw [HADD.out]);simp⟩
    case measure=>simp [intOf];omega
  ·obtain rfl:i=21:=by omega
   go_wp2_with fail
   go_ret
   exact ⟨rfl,rfl⟩
theorem kI (c:Nat) (w:World) (h:c<4194304) :
  Calls Tryz.prog 183 #[.int .i64 c] w fun e w'=>e = .returned (.int .i64 (dataW c))/\w=w':=by
 have hr:inR (c:Int) 0 4194303=true:=ak.2 ⟨by omega,by omega⟩
 go_enter Tryz.func183,Tryz.ntmps183
 go_wp2_with (go_at_call 175;refine (aW _ _ _ _).mono ?_;rintro e w' ⟨rfl,rfl⟩)
 go_loop [3,4,5] (fun v k p=>∃i:Nat,i<=21/\p = .int .i64 ((i:Int)+1)/\k = .int .i64 (kTo i)/\v = .int .i64 (gD c i)) (fun _ _ p=>22 - (intOf p).toNat)
 case atStart=>exact ⟨0,by omega,rfl,rfl,rfl⟩
 case round =>
  obtain ⟨i,hi,rfl,rfl,rfl⟩:=hrel
  by_cases hlt:i<21
  ·skip
   have hs:=gD.eq_2 c i
   have hk:=kTo.eq_2 i
   have hlo:=qF c i
   have hkl:=zP i
   have hsb:=jC c i (by omega)
   have hor:=pJ hlo (fP c i) (show kTo i<=61 by omega)
   have hadd:=qI hlo (fP c i) (show kTo i<=60 by omega)
   have HS:=Hd hs
   have HK:=Hd hk
   have HOR:=Hd hor
   have HADD:=Hd hadd
   clear hs hk hlo hor hadd
   have hcp:=ru (i+1)
   simp only [Int.natCast_add,Int.natCast_one] at hcp
   have HCP:=Hd hcp
   clear hcp
   cases hp:isP (i+1) with
   | true =>
    have HP:=Hd hp
    go_wp2_with (go_at_call 208;refine (HCP.out _ (by omega) (by omega)).mono ?_;rintro e w' ⟨rfl,rfl⟩)
    go_round
    case rel=>exact ⟨i+1,by omega,by go_num,by rw [HK.out,HP.out];simp,by rw [HS.out,HP.out];simp⟩
    case measure=>simp [intOf];omega
   | false =>
    have HP:=Hd hp
    go_wp2_with (go_at_call 208;refine (HCP.out _ (by omega) (by omega)).mono ?_;rintro e w' ⟨rfl,rfl⟩)
    go_round
    case rel=>exact ⟨i+1,by omega,by go_num,by rw [HK.out,HP.out];simp,by rw [HS.out,HP.out];(first|rw [HOR.out]|rw [HADD.out]);simp⟩
    case measure=>simp [intOf];omega
  ·obtain rfl:i=21:=by omega
   go_wp2_with fail
   go_ret
   exact ⟨rfl,rfl⟩
/-! ### counting ones -/
theorem CE {c k m : Nat} (h : c / 2 ^ k = 0) (hk : k <= m) : nU c m = nU c k := by
  induction m with
  | zero => obtain rfl : k = 0 := by omega
            rfl
  | succ m ih =>
    rcases Nat.lt_or_ge m k with h1 | h1
    · obtain rfl : k = m + 1 := by omega
      rfl
    · rw [nU, ih h1, bit, Nat.div_eq_of_lt]
      · simp
      · have h2 : c < 2 ^ k := by
          rcases Nat.lt_or_ge c (2 ^ k) with h3 | h3
          · exact h3
          · have := Nat.div_pos h3 (Nat.two_pow_pos k)
            omega
        exact Nat.lt_of_lt_of_le h2 (Nat.pow_le_pow_right (by omega) h1)
theorem iY (c:Nat) (w:World) (h:c<4194304) :
  Calls Tryz.prog 231 #[.int .i64 c] w fun e w'=>e = .returned (.int .i64 (jY c))/\w=w':=by
 go_enter Tryz.func231,Tryz.ntmps231
 go_wp2_with fail
 go_loop [0,3] (fun n v=>∃k:Nat,k<=22/\n = .int .i64 ((c / 2 ^ k:Nat):Int)/\v = .int .i64 (nU c k)) (fun n _=>(intOf n).toNat)
 case atStart=>exact ⟨0,by omega,by simp,rfl⟩
 case round =>
  obtain ⟨k,hk,rfl,rfl⟩:=hrel
  have hle:c / 2 ^ k<=c:=Nat.div_le_self _ _
  have hand:=mO (c / 2 ^ k) (by omega)
  have hpl:=nW c k
  have hst:=CE (c:=c) (k:=k) (m:=22)
  have HST:=Hd hst
  have hs:=nU.eq_2 c k
  have HS:=Hd hs
  have hbd:bit c k=c / 2 ^ k % 2:=rfl
  have HBD:=Hd hbd
  have hdv:c / 2 ^ (k+1)=c / 2 ^ k / 2:=by rw [Nat.pow_succ,Nat.div_div_eq_div_mul]
  have HDV:=Hd hdv
  have hbig:¬k<22→c / 2 ^ k=0:=fun hk'=>by
   obtain rfl:k=22:=by omega
   exact Nat.div_eq_of_lt h
  have HBIG:=Hd hbig
  clear hst hs hbd hdv hbig
  generalize c / 2 ^ k=q at *
  by_cases hq:0<q
  ·have hk22:k<22:=by
    rcases Nat.lt_or_ge k 22 with h1|h1
    ·exact h1
    ·have:=HBIG.out (by omega);omega
   go_wp2_with fail
   go_round
   case rel=>exact ⟨k+1,by omega,by rw [HDV.out];simp,by rw [HS.out,HBD.out];simp⟩
   case measure=>simp [intOf];omega
  ·obtain rfl:q=0:=by omega
   go_wp2_with fail
   go_ret
   exact ⟨aP (by rw [jY,HST.out (by first|trivial|rfl) hk]),rfl⟩
theorem lJ (c:Nat) (w:World) (h:c<4194304) :
  Calls Tryz.prog 210 #[.int .i64 c] w fun e w'=>e = .returned (.int .i64 (jY c))/\w=w':=by
 go_enter Tryz.func210,Tryz.ntmps210
 go_wp2_with fail
 go_loop [3,4] (fun v i=>∃k:Nat,k<=22/\i = .int .i64 k/\v = .int .i64 (nU c k)) (fun _ i=>22 - (intOf i).toNat)
 case atStart=>exact ⟨0,by omega,rfl,rfl⟩
 case round =>
  obtain ⟨k,hk,rfl,rfl⟩:=hrel
  have hpl:=nW c k
  have hbl:=fP c k
  have hsb:=jC c k (by omega)
  have hs:=nU.eq_2 c k
  have HS:=Hd hs
  clear hs
  by_cases hlt:k<22
  ·go_wp2_with fail
   go_round
   case rel=>exact ⟨k+1,by omega,by go_num,by rw [HS.out];simp⟩
   case measure=>simp [intOf];omega
  ·obtain rfl:k=22:=by omega
   go_wp2_with fail
   go_ret
   exact ⟨rfl,rfl⟩
/-! ### encoding -/
theorem zZ (s j:Nat):s &&& 2 ^ j=bit s j * 2 ^ j:=Go.nat_bit j s
theorem pK (x:Nat) (w:World) (h:x<65536) :
  Calls Tryz.prog 214 #[.int .i64 x] w fun e w'=>e = .returned (.int .i64 (encW x))/\w=w':=by
 have hr:inR (x:Int) 0 65535=true:=ak.2 ⟨by omega,by omega⟩
 go_enter Tryz.func214,Tryz.ntmps214
 go_wp2_with (go_at_call 116;refine (aN _ _ _ _).mono ?_;rintro e w' ⟨rfl,rfl⟩)
 go_loop [3,4,5] (fun v k p=>∃i:Nat,i<=21/\p = .int .i64 ((i:Int)+1)/\k = .int .i64 (kTo i)/\v = .int .i64 (bE x i)) (fun _ _ p=>22 - (intOf p).toNat)
 case atStart=>exact ⟨0,by omega,rfl,rfl,rfl⟩
 case round =>
  obtain ⟨i,hi,rfl,rfl,rfl⟩:=hrel
  by_cases hlt:i<21
  ·skip
   have hs:=bE.eq_2 x i
   have hk:=kTo.eq_2 i
   have hlo:=jZ x i
   have hkl:=zP i
   have hsb:=jC x (kTo i) (by omega)
   have hor:=pJ hlo (fP x (kTo i)) (show i<=61 by omega)
   have hadd:=qI hlo (fP x (kTo i)) (show i<=60 by omega)
   have HS:=Hd hs
   have HK:=Hd hk
   have HOR:=Hd hor
   have HADD:=Hd hadd
   clear hs hk hlo hor hadd
   have hcp:=uO (i+1)
   simp only [Int.natCast_add,Int.natCast_one] at hcp
   have HCP:=Hd hcp
   clear hcp
   cases hp:isP (i+1) with
   | true =>
    have HP:=Hd hp
    go_wp2_with (go_at_call 223;refine (HCP.out _ (by omega) (by omega)).mono ?_;rintro e w' ⟨rfl,rfl⟩)
    go_round
    case rel=>exact ⟨i+1,by omega,by go_num,by rw [HK.out,HP.out];simp,by rw [HS.out,HP.out];simp⟩
    case measure=>simp [intOf];omega
   | false =>
    have HP:=Hd hp
    go_wp2_with (go_at_call 223;refine (HCP.out _ (by omega) (by omega)).mono ?_;rintro e w' ⟨rfl,rfl⟩)
    go_round
    case rel=>exact ⟨i+1,by omega,by go_num,by rw [HK.out,HP.out];simp,by rw [HS.out,HP.out];(first|rw [HOR.out]|rw [HADD.out]);simp⟩
    case measure=>simp [intOf];omega
  ·obtain rfl:i=21:=by omega
   have hsp:=jZ x 21
   have hsl:=nV (bE x 21) 21 (by omega)
   have hcl:=fun j hj=>Da (s:=jb (bE x 21)) hsp j hj
   have HCL:=Hd hcl
   have hC:=fun j=>iD.eq_2 (bE x 21) (jb (bE x 21)) j
   have HC:=Hd hC
   have hE:encW x=iD (bE x 21) (jb (bE x 21)) 5+jY (iD (bE x 21) (jb (bE x 21)) 5) % 2 * 2 ^ 21:=rfl
   have HE:=Hd hE
   clear hcl hC hE
   go_wp2_with (go_at_call 230;refine (iX _ _ (by omega)).mono ?_;rintro e w' ⟨rfl,rfl⟩)
   have hs5:jb (bE x 21)<32:=hsl
   clear hsl
   generalize jb (bE x 21)=s at *
   have h0:iD (bE x 21) s 0=bE x 21:=rfl
   have H0:=Hd h0
   clear h0
   go_loop [3,7] (fun v p=>∃j:Nat,j<=5/\p = .int .i64 ((2 ^ j:Nat):Int)/\v = .int .i64 (iD (bE x 21) s j)) (fun _ p=>33 - (intOf p).toNat)
   case atStart=>exact ⟨0,by omega,rfl,by rw [H0.out]⟩
   case round =>
    obtain ⟨j,hj,rfl,rfl⟩:=hrel
    have hlt:=HCL.out j hj
    have hCj:=HC.out j
    have hbl:=fP s j
    have hand:=mZ s (2 ^ j) (by omega) (jm (show j<=62 by omega))
    rw [zZ] at hand
    have HCJ:=Hd hCj
    generalize ho:iD (bE x 21) s j=o at *
    have HO:=Hd ho
    clear ho
    generalize hbv:bit s j=bv at *
    have HBV:=Hd hbv
    clear hCj hbv
    rcases (by omega:j=0∨j=1∨j=2∨j=3∨j=4∨j=5) with rfl|rfl|rfl|rfl|rfl|rfl
    ·rcases (by omega:bv=0∨bv=1) with rfl|rfl
     ·simp at hand
      go_wp2_with fail
      go_round
      case rel=>exact ⟨1,by omega,by simp,by rw [HCJ.out];simp⟩
      case measure=>simp [intOf]
     ·simp at hand
      go_wp2_with fail
      go_round
      case rel=>exact ⟨1,by omega,by simp,congrArg (Value.int .i64) ((gz o 1 (by omega) (by omega)).trans (by rw [HCJ.out]))⟩
      case measure=>simp [intOf]
    ·rcases (by omega:bv=0∨bv=1) with rfl|rfl
     ·simp at hand
      go_wp2_with fail
      go_round
      case rel=>exact ⟨2,by omega,by simp,by rw [HCJ.out];simp⟩
      case measure=>simp [intOf]
     ·simp at hand
      go_wp2_with fail
      go_round
      case rel=>exact ⟨2,by omega,by simp,congrArg (Value.int .i64) ((gz o 2 (by omega) (by omega)).trans (by rw [HCJ.out]))⟩
      case measure=>simp [intOf]
    ·rcases (by omega:bv=0∨bv=1) with rfl|rfl
     ·simp at hand
      go_wp2_with fail
      go_round
      case rel=>exact ⟨3,by omega,by simp,by rw [HCJ.out];simp⟩
      case measure=>simp [intOf]
     ·simp at hand
      go_wp2_with fail
      go_round
      case rel=>exact ⟨3,by omega,by simp,congrArg (Value.int .i64) ((gz o 8 (by omega) (by omega)).trans (by rw [HCJ.out]))⟩
      case measure=>simp [intOf]
    ·rcases (by omega:bv=0∨bv=1) with rfl|rfl
     ·simp at hand
      go_wp2_with fail
      go_round
      case rel=>exact ⟨4,by omega,by simp,by rw [HCJ.out];simp⟩
      case measure=>simp [intOf]
     ·simp at hand
      go_wp2_with fail
      go_round
      case rel=>exact ⟨4,by omega,by simp,congrArg (Value.int .i64) ((gz o 128 (by omega) (by omega)).trans (by rw [HCJ.out]))⟩
      case measure=>simp [intOf]
    ·rcases (by omega:bv=0∨bv=1) with rfl|rfl
     ·simp at hand
      go_wp2_with fail
      go_round
      case rel=>exact ⟨5,by omega,by simp,by rw [HCJ.out];simp⟩
      case measure=>simp [intOf]
     ·simp at hand
      go_wp2_with fail
      go_round
      case rel=>exact ⟨5,by omega,by simp,congrArg (Value.int .i64) ((gz o 32768 (by omega) (by omega)).trans (by rw [HCJ.out]))⟩
      case measure=>simp [intOf]
    ·have hpl:=nW o 22
     have hpl':jY o<=22:=hpl
     have hmod:=mO (jY o) (by omega)
     have hm2:jY o % 2<=1:=by omega
     have hfin:=pJ (k:=21) hlt hm2 (by omega)
     rw [ry hm2 (by omega)] at hfin
     have HFIN:=Hd hfin
     clear hfin hand HCL HC H0 HCJ HBV hpl
     go_wp2_with (go_at_call 231;refine (iY _ _ (by omega)).mono ?_;rintro e w' ⟨rfl,rfl⟩)
     go_ret
     refine ⟨aP ?_,rfl⟩
     rw [HE.out,HO.out,←HFIN.out]
     rfl
theorem oW (x:Nat) (w:World) (h:x<65536) :
  Calls Tryz.prog 161 #[.int .i64 x] w fun e w'=>e = .returned (.int .i64 (encW x))/\Below w.heap.size w w':=by
 have hr:inR (x:Int) 0 65535=true:=ak.2 ⟨by omega,by omega⟩
 go_enter Tryz.func161,Tryz.ntmps161
 go_wp2_with (go_at_call 175;refine (aW _ _ _ _).mono ?_;rintro e w' ⟨rfl,rfl⟩)
 go_loop [3,4,5] (fun v k p=>∃i:Nat,i<=21/\p = .int .i64 ((i:Int)+1)/\k = .int .i64 (kTo i)/\v = .int .i64 (bE x i)) (fun _ _ p=>22 - (intOf p).toNat)
 case atStart=>exact ⟨0,by omega,rfl,rfl,rfl⟩
 case round =>
  obtain ⟨i,hi,rfl,rfl,rfl⟩:=hrel
  by_cases hlt:i<21
  ·skip
   have hs:=bE.eq_2 x i
   have hk:=kTo.eq_2 i
   have hlo:=jZ x i
   have hkl:=zP i
   have hsb:=jC x (kTo i) (by omega)
   have hor:=pJ hlo (fP x (kTo i)) (show i<=61 by omega)
   have hadd:=qI hlo (fP x (kTo i)) (show i<=60 by omega)
   have HS:=Hd hs
   have HK:=Hd hk
   have HOR:=Hd hor
   have HADD:=Hd hadd
   clear hs hk hlo hor hadd
   have hcp:=ru (i+1)
   simp only [Int.natCast_add,Int.natCast_one] at hcp
   have HCP:=Hd hcp
   clear hcp
   cases hp:isP (i+1) with
   | true =>
    have HP:=Hd hp
    go_wp2_with (go_at_call 208;refine (HCP.out _ (by omega) (by omega)).mono ?_;rintro e w' ⟨rfl,rfl⟩)
    go_round
    case rel=>exact ⟨i+1,by omega,by go_num,by rw [HK.out,HP.out];simp,by rw [HS.out,HP.out];simp⟩
    case measure=>simp [intOf];omega
   | false =>
    have HP:=Hd hp
    go_wp2_with (go_at_call 208;refine (HCP.out _ (by omega) (by omega)).mono ?_;rintro e w' ⟨rfl,rfl⟩)
    go_round
    case rel=>exact ⟨i+1,by omega,by go_num,by rw [HK.out,HP.out];simp,by rw [HS.out,HP.out];(first|rw [HOR.out]|rw [HADD.out]);simp⟩
    case measure=>simp [intOf];omega
  ·obtain rfl:i=21:=by omega
   have hsp:=jZ x 21
   have hsl:=nV (bE x 21) 21 (by omega)
   have hcl:=fun j hj=>Da (s:=jb (bE x 21)) hsp j hj
   have HCL:=Hd hcl
   have hC:=fun j=>iD.eq_2 (bE x 21) (jb (bE x 21)) j
   have HC:=Hd hC
   have hE:encW x=iD (bE x 21) (jb (bE x 21)) 5+jY (iD (bE x 21) (jb (bE x 21)) 5) % 2 * 2 ^ 21:=rfl
   have HE:=Hd hE
   clear hcl hC hE
   go_wp2_with (go_at_call 209;refine (iG _ _ (by omega)).mono ?_;rintro e w' ⟨rfl,rfl⟩)
   have hs5:jb (bE x 21)<32:=hsl
   clear hsl
   generalize jb (bE x 21)=s at *
   have h0:iD (bE x 21) s 0=bE x 21:=rfl
   have H0:=Hd h0
   clear h0
   go_loopw [3,7] (fun v p wr=>∃j nq:Nat,j<=5/\p = .int .i64 (j:Int)/\v = .int .i64 (iD (bE x 21) s j)/\wr=w.drewN nq) (fun _ p _=>6 - (intOf p).toNat)
   case atStart=>exact ⟨0,0,by omega,rfl,by rw [H0.out],rfl⟩
   case round =>
    obtain ⟨j,nq,hj,rfl,rfl,rfl⟩:=hrel
    have hlt:=HCL.out j hj
    have hCj:j<5→iD (bE x 21) s j+bit s j * 2 ^ (2 ^ j - 1)=iD (bE x 21) s (j+1):=Gt x s j
    have hbl:=fP s j
    have hand:=jC s j (by omega)
    have HCJ:=Hd hCj
    generalize ho:iD (bE x 21) s j=o at *
    have HO:=Hd ho
    clear ho
    generalize hbv:bit s j=bv at *
    have HBV:=Hd hbv
    clear hCj hbv
    rcases (by omega:j=0∨j=1∨j=2∨j=3∨j=4∨j=5) with rfl|rfl|rfl|rfl|rfl|rfl
    ·rcases (by omega:bv=0∨bv=1) with rfl|rfl
     ·simp at hand
      go_wp2_with fail
      go_quiet (fail)
      go_wp2_with fail
      go_roundw
      case rel=>exact ⟨1,_,by omega,by simp,by rw [←HCJ.out (by omega)];simp,rfl⟩
      case measure=>simp [intOf]
     ·simp at hand
      go_wp2_with fail
      go_quiet (fail)
      go_wp2_with fail
      go_roundw
      case rel=>exact ⟨1,_,by omega,by simp,by rw [←HCJ.out (by omega)];simp,rfl⟩
      case measure=>simp [intOf]
    ·rcases (by omega:bv=0∨bv=1) with rfl|rfl
     ·simp at hand
      go_wp2_with fail
      go_quiet (fail)
      go_wp2_with fail
      go_roundw
      case rel=>exact ⟨2,_,by omega,by simp,by rw [←HCJ.out (by omega)];simp,rfl⟩
      case measure=>simp [intOf]
     ·simp at hand
      go_wp2_with fail
      go_quiet (fail)
      go_wp2_with fail
      go_roundw
      case rel=>exact ⟨2,_,by omega,by simp,by rw [←HCJ.out (by omega)];simp,rfl⟩
      case measure=>simp [intOf]
    ·rcases (by omega:bv=0∨bv=1) with rfl|rfl
     ·simp at hand
      go_wp2_with fail
      go_quiet (fail)
      go_wp2_with fail
      go_roundw
      case rel=>exact ⟨3,_,by omega,by simp,by rw [←HCJ.out (by omega)];simp,rfl⟩
      case measure=>simp [intOf]
     ·simp at hand
      go_wp2_with fail
      go_quiet (fail)
      go_wp2_with fail
      go_roundw
      case rel=>exact ⟨3,_,by omega,by simp,by rw [←HCJ.out (by omega)];simp,rfl⟩
      case measure=>simp [intOf]
    ·rcases (by omega:bv=0∨bv=1) with rfl|rfl
     ·simp at hand
      go_wp2_with fail
      go_quiet (fail)
      go_wp2_with fail
      go_roundw
      case rel=>exact ⟨4,_,by omega,by simp,by rw [←HCJ.out (by omega)];simp,rfl⟩
      case measure=>simp [intOf]
     ·simp at hand
      go_wp2_with fail
      go_quiet (fail)
      go_wp2_with fail
      go_roundw
      case rel=>exact ⟨4,_,by omega,by simp,by rw [←HCJ.out (by omega)];simp,rfl⟩
      case measure=>simp [intOf]
    ·rcases (by omega:bv=0∨bv=1) with rfl|rfl
     ·simp at hand
      go_wp2_with fail
      go_quiet (fail)
      go_wp2_with fail
      go_roundw
      case rel=>exact ⟨5,_,by omega,by simp,by rw [←HCJ.out (by omega)];simp,rfl⟩
      case measure=>simp [intOf]
     ·simp at hand
      go_wp2_with fail
      go_quiet (fail)
      go_wp2_with fail
      go_roundw
      case rel=>exact ⟨5,_,by omega,by simp,by rw [←HCJ.out (by omega)];simp,rfl⟩
      case measure=>simp [intOf]
    ·have hpl:=nW o 22
     have hpl':jY o<=22:=hpl
     clear hand HCL HC H0 HCJ HBV hpl
     go_wp2_with (go_at_call 210;refine (lJ _ _ (by omega)).mono ?_;rintro e w' ⟨rfl,rfl⟩)
     go_ret
     exact ⟨aP (by rw [HE.out,HO.out];simp),aZ (Below.refl _ _) _⟩
theorem CF {c:Nat} (h:c<4194304):inR (c:Int) 0 4194303=true:=ak.2 ⟨by omega,by omega⟩
theorem rz (c:Nat):dataW c<65536:=qF c 21
def nZ (c:Nat):Nat × Nat :=
 if jY c % 2=0 then (if jb c=0 then (dataW c,0) else (0,2))
 else if jb c=0 then (dataW c,1) else if jb c<=21 then (dataW (c ^^^ 2 ^ (jb c - 1)),1) else (0,2)
def iq (code:Int):Int × Int:=if inR code 0 4194303=true then (((nZ code.toNat).1:Int),((nZ code.toNat).2:Int)) else (0,2)
def pF (code:Int):Int × Int:=if (iq code).2=1 then ((encW (iq code).1.toNat:Nat),1) else (code,(iq code).2)
theorem za {code:Int} (h:inR code 0 4194303=false):iq code=(0,2):=by rw [iq,h];rfl
theorem zb {c:Nat} (h:c<4194304):iq (c:Int)=(((nZ c).1:Int),((nZ c).2:Int)):=by rw [iq,CF h];simp
theorem ng {c k:Nat} (h:c<4194304) (hk:k<=21):c ^^^ 2 ^ k<4194304:=by
 have h1:2 ^ k<2 ^ 22:=Nat.pow_lt_pow_right (by omega) (by omega)
 exact Nat.xor_lt_two_pow (n:=22) (by omega) h1
theorem lU (code:Int) (w:World) :
  Calls Tryz.prog 215 #[.int .i64 code] w fun e w'=>e = .returned (.tuple #[.int .i64 (iq code).1,.int .i64 (iq code).2])/\w=w':=by
 cases hr:inR code 0 4194303 with
 | false =>
  have HD:=Hd (za hr)
  go_enter Tryz.func215,Tryz.ntmps215
  go_wp2_with (go_at_call 116;refine (aN _ _ _ _).mono ?_;rintro e w' ⟨rfl,rfl⟩)
  go_ret2
  exact ⟨by rw [HD.out];rfl,rfl⟩
 | true =>
  have hb:=ak.1 hr
  obtain ⟨c,rfl⟩:=Int.eq_ofNat_of_zero_le hb.1
  have hc:c<4194304:=by omega
  have HD:=Hd (zb hc)
  have HN:Hid (nZ c=if jY c % 2=0 then (if jb c=0 then (dataW c,0) else (0,2))
   else if jb c=0 then (dataW c,1) else if jb c<=21 then (dataW (c ^^^ 2 ^ (jb c - 1)),1) else (0,2)):=rfl
  have hs:jb c<32:=nV c 21 (by omega)
  have ho:jY c<=22:=nW c 22
  have hx21:bits .xor .i64 (c:Int) 2097152=((c ^^^ 2097152:Nat):Int):=jW c 2097152 (by omega) (by omega)
  have hx21':c ^^^ 2097152<4194304:=ng (k:=21) hc (by omega)
  generalize hsy:jb c=s at *
  have HSY:=Hd hsy
  clear hsy
  have HON:Hid (jY c=jY c):=rfl
  generalize hoy:jY c=o at *
  have HOY:=Hd hoy
  clear hoy HON
  rcases (by omega:o % 2=0∨o % 2=1) with ho2|ho2
  ·have hoi:(o:Int) % 2=0:=by omega
   have HO2:=Hd ho2
   clear ho2
   rcases Nat.eq_zero_or_pos s with rfl|hs0
   ·have HV:Hid (nZ c=(dataW c,0)):=by unfold Hid;rw [HN.out,if_pos HO2.out,if_pos rfl]
    clear HN
    go_enter Tryz.func215,Tryz.ntmps215
    go_wp2_with (first
     | (go_at_call 116;refine (aN _ _ _ _).mono ?_;rintro e w' ⟨rfl,rfl⟩)
     | (go_at_call 230;refine (iX _ _ hc).mono ?_;rintro e w' ⟨rfl,rfl⟩;rw [HSY.out])
     | (go_at_call 231;refine (iY _ _ hc).mono ?_;rintro e w' ⟨rfl,rfl⟩;rw [HOY.out])
     | (go_at_call 191;refine (jc _ _ hc).mono ?_;rintro e w' ⟨rfl,rfl⟩))
    go_ret2
    exact ⟨by rw [HD.out,HV.out];simp,rfl⟩
   ·have HV:Hid (nZ c=(0,2)):=by unfold Hid;rw [HN.out,if_pos HO2.out,if_neg (by omega)]
    have hs1:((s:Int)==0)=false:=by simp;omega
    clear HN
    go_enter Tryz.func215,Tryz.ntmps215
    go_wp2_with (first
     | (go_at_call 116;refine (aN _ _ _ _).mono ?_;rintro e w' ⟨rfl,rfl⟩)
     | (go_at_call 230;refine (iX _ _ hc).mono ?_;rintro e w' ⟨rfl,rfl⟩;rw [HSY.out])
     | (go_at_call 231;refine (iY _ _ hc).mono ?_;rintro e w' ⟨rfl,rfl⟩;rw [HOY.out]))
    go_ret2
    exact ⟨by rw [HD.out,HV.out];simp,rfl⟩
  ·have hoi:(o:Int) % 2=1:=by omega
   have HO2:=Hd ho2
   clear ho2
   rcases Nat.eq_zero_or_pos s with rfl|hs0
   ·have HV:Hid (nZ c=(dataW c,1)):=by unfold Hid;rw [HN.out,if_neg (by rw [HO2.out];omega),if_pos rfl]
    clear HN
    go_enter Tryz.func215,Tryz.ntmps215
    go_wp2_with (first
     | (go_at_call 116;refine (aN _ _ _ _).mono ?_;rintro e w' ⟨rfl,rfl⟩)
     | (go_at_call 230;refine (iX _ _ hc).mono ?_;rintro e w' ⟨rfl,rfl⟩;rw [HSY.out])
     | (go_at_call 231;refine (iY _ _ hc).mono ?_;rintro e w' ⟨rfl,rfl⟩;rw [HOY.out])
     | (go_at_call 191;refine (jc _ _ hx21').mono ?_;rintro e w' ⟨rfl,rfl⟩;rw [zQ]))
    go_ret2
    exact ⟨by rw [HD.out,HV.out];simp,rfl⟩
   ·rcases Nat.lt_or_ge 21 s with h21|h21
    ·have HV:Hid (nZ c=(0,2)):=by unfold Hid;rw [HN.out,if_neg (by rw [HO2.out];omega),if_neg (by omega),if_neg (by omega)]
     have hs1:((s:Int)==0)=false:=by simp;omega
     clear HN
     go_enter Tryz.func215,Tryz.ntmps215
     go_wp2_with (first
      | (go_at_call 116;refine (aN _ _ _ _).mono ?_;rintro e w' ⟨rfl,rfl⟩)
      | (go_at_call 230;refine (iX _ _ hc).mono ?_;rintro e w' ⟨rfl,rfl⟩;rw [HSY.out])
      | (go_at_call 231;refine (iY _ _ hc).mono ?_;rintro e w' ⟨rfl,rfl⟩;rw [HOY.out]))
     go_ret2
     exact ⟨by rw [HD.out,HV.out];simp,rfl⟩
    ·have HV:Hid (nZ c=(dataW (c ^^^ 2 ^ (s - 1)),1)):=by unfold Hid;rw [HN.out,if_neg (by rw [HO2.out];omega),if_neg (by omega),if_pos h21]
     obtain ⟨k,rfl⟩:∃k,s=k+1:=⟨s - 1,by omega⟩
     have hs1:((k:Int)+1==0)=false:=by simp;omega
     have hwp:wrap64 (2 ^ k)=2 ^ k:=nQ (by omega)
     have hxk:bits .xor .i64 (c:Int) (2 ^ k)=((c ^^^ 2 ^ k:Nat):Int):=by
      rw [jo];exact jW c _ (by omega) (jm (by omega))
     have hxl:c ^^^ 2 ^ k<4194304:=ng hc (by omega)
     clear HN
     go_enter Tryz.func215,Tryz.ntmps215
     go_wp2_with (first
      | (go_at_call 116;refine (aN _ _ _ _).mono ?_;rintro e w' ⟨rfl,rfl⟩)
      | (go_at_call 230;refine (iX _ _ hc).mono ?_;rintro e w' ⟨rfl,rfl⟩;rw [HSY.out])
      | (go_at_call 231;refine (iY _ _ hc).mono ?_;rintro e w' ⟨rfl,rfl⟩;rw [HOY.out])
      | (go_at_call 191;refine (jc _ _ hxl).mono ?_;rintro e w' ⟨rfl,rfl⟩))
     go_ret2
     exact ⟨by rw [HD.out,HV.out];simp,rfl⟩
theorem jD (code:Int) (w:World) :
  Calls Tryz.prog 178 #[.int .i64 code] w fun e w'=>e = .returned (.tuple #[.int .i64 (iq code).1,.int .i64 (iq code).2])/\w=w':=by
 cases hr:inR code 0 4194303 with
 | false =>
  have HD:=Hd (za hr)
  go_enter Tryz.func178,Tryz.ntmps178
  go_wp2_with (go_at_call 175;refine (aW _ _ _ _).mono ?_;rintro e w' ⟨rfl,rfl⟩)
  go_ret2
  exact ⟨by rw [HD.out];rfl,rfl⟩
 | true =>
  have hb:=ak.1 hr
  obtain ⟨c,rfl⟩:=Int.eq_ofNat_of_zero_le hb.1
  have hc:c<4194304:=by omega
  have HD:=Hd (zb hc)
  have HN:Hid (nZ c=if jY c % 2=0 then (if jb c=0 then (dataW c,0) else (0,2))
   else if jb c=0 then (dataW c,1) else if jb c<=21 then (dataW (c ^^^ 2 ^ (jb c - 1)),1) else (0,2)):=rfl
  have hs:jb c<32:=nV c 21 (by omega)
  have ho:jY c<=22:=nW c 22
  have hx21:bits .xor .i64 (c:Int) 2097152=((c ^^^ 2097152:Nat):Int):=jW c 2097152 (by omega) (by omega)
  have hx21':c ^^^ 2097152<4194304:=ng (k:=21) hc (by omega)
  generalize hsy:jb c=s at *
  have HSY:=Hd hsy
  clear hsy
  have HON:Hid (jY c=jY c):=rfl
  generalize hoy:jY c=o at *
  have HOY:=Hd hoy
  clear hoy HON
  rcases (by omega:o % 2=0∨o % 2=1) with ho2|ho2
  ·have hoi:(o:Int) % 2=0:=by omega
   have HO2:=Hd ho2
   clear ho2
   rcases Nat.eq_zero_or_pos s with rfl|hs0
   ·have HV:Hid (nZ c=(dataW c,0)):=by unfold Hid;rw [HN.out,if_pos HO2.out,if_pos rfl]
    clear HN
    go_enter Tryz.func178,Tryz.ntmps178
    go_wp2_with (first
     | (go_at_call 175;refine (aW _ _ _ _).mono ?_;rintro e w' ⟨rfl,rfl⟩)
     | (go_at_call 209;refine (iG _ _ hc).mono ?_;rintro e w' ⟨rfl,rfl⟩;rw [HSY.out])
     | (go_at_call 210;refine (lJ _ _ hc).mono ?_;rintro e w' ⟨rfl,rfl⟩;rw [HOY.out])
     | (go_at_call 183;refine (kI _ _ hc).mono ?_;rintro e w' ⟨rfl,rfl⟩))
    go_ret2
    exact ⟨by rw [HD.out,HV.out];simp,rfl⟩
   ·have HV:Hid (nZ c=(0,2)):=by unfold Hid;rw [HN.out,if_pos HO2.out,if_neg (by omega)]
    have hs1:((s:Int)==0)=false:=by simp;omega
    clear HN
    go_enter Tryz.func178,Tryz.ntmps178
    go_wp2_with (first
     | (go_at_call 175;refine (aW _ _ _ _).mono ?_;rintro e w' ⟨rfl,rfl⟩)
     | (go_at_call 209;refine (iG _ _ hc).mono ?_;rintro e w' ⟨rfl,rfl⟩;rw [HSY.out])
     | (go_at_call 210;refine (lJ _ _ hc).mono ?_;rintro e w' ⟨rfl,rfl⟩;rw [HOY.out]))
    go_ret2
    exact ⟨by rw [HD.out,HV.out];simp,rfl⟩
  ·have hoi:(o:Int) % 2=1:=by omega
   have HO2:=Hd ho2
   clear ho2
   rcases Nat.eq_zero_or_pos s with rfl|hs0
   ·have HV:Hid (nZ c=(dataW c,1)):=by unfold Hid;rw [HN.out,if_neg (by rw [HO2.out];omega),if_pos rfl]
    clear HN
    go_enter Tryz.func178,Tryz.ntmps178
    go_wp2_with (first
     | (go_at_call 175;refine (aW _ _ _ _).mono ?_;rintro e w' ⟨rfl,rfl⟩)
     | (go_at_call 209;refine (iG _ _ hc).mono ?_;rintro e w' ⟨rfl,rfl⟩;rw [HSY.out])
     | (go_at_call 210;refine (lJ _ _ hc).mono ?_;rintro e w' ⟨rfl,rfl⟩;rw [HOY.out])
     | (go_at_call 183;refine (kI _ _ hc).mono ?_;rintro e w' ⟨rfl,rfl⟩))
    go_ret2
    exact ⟨by rw [HD.out,HV.out];simp,rfl⟩
   ·rcases Nat.lt_or_ge 21 s with h21|h21
    ·have HV:Hid (nZ c=(0,2)):=by unfold Hid;rw [HN.out,if_neg (by rw [HO2.out];omega),if_neg (by omega),if_neg (by omega)]
     have hs1:((s:Int)==0)=false:=by simp;omega
     clear HN
     go_enter Tryz.func178,Tryz.ntmps178
     go_wp2_with (first
      | (go_at_call 175;refine (aW _ _ _ _).mono ?_;rintro e w' ⟨rfl,rfl⟩)
      | (go_at_call 209;refine (iG _ _ hc).mono ?_;rintro e w' ⟨rfl,rfl⟩;rw [HSY.out])
      | (go_at_call 210;refine (lJ _ _ hc).mono ?_;rintro e w' ⟨rfl,rfl⟩;rw [HOY.out]))
     go_ret2
     exact ⟨by rw [HD.out,HV.out];simp,rfl⟩
    ·have HV:Hid (nZ c=(dataW (c ^^^ 2 ^ (s - 1)),1)):=by unfold Hid;rw [HN.out,if_neg (by rw [HO2.out];omega),if_neg (by omega),if_pos h21]
     obtain ⟨k,rfl⟩:∃k,s=k+1:=⟨s - 1,by omega⟩
     have hs1:((k:Int)+1==0)=false:=by simp;omega
     have hwp:wrap64 (2 ^ k)=2 ^ k:=nQ (by omega)
     have hxk:bits .xor .i64 (c:Int) (2 ^ k)=((c ^^^ 2 ^ k:Nat):Int):=by
      rw [jo];exact jW c _ (by omega) (jm (by omega))
     have hxl:c ^^^ 2 ^ k<4194304:=ng hc (by omega)
     clear HN
     go_enter Tryz.func178,Tryz.ntmps178
     go_wp2_with (first
      | (go_at_call 175;refine (aW _ _ _ _).mono ?_;rintro e w' ⟨rfl,rfl⟩)
      | (go_at_call 209;refine (iG _ _ hc).mono ?_;rintro e w' ⟨rfl,rfl⟩;rw [HSY.out])
      | (go_at_call 210;refine (lJ _ _ hc).mono ?_;rintro e w' ⟨rfl,rfl⟩;rw [HOY.out])
      | (go_at_call 183;refine (kI _ _ hxl).mono ?_;rintro e w' ⟨rfl,rfl⟩))
     go_ret2
     exact ⟨by rw [HD.out,HV.out];simp,rfl⟩
/-! ### repairing -/
theorem EM (c:Nat):(nZ c).1<65536:=by
 unfold nZ
 split
 ·split
  ·exact rz c
  ·simp
 ·split
  ·exact rz c
  ·split
   ·exact rz _
   ·simp
theorem xL (code:Int):0<=(iq code).1/\(iq code).1<65536:=by
 unfold iq
 split
 ·have:=EM code.toNat
  simp only;omega
 ·simp
theorem vK (code:Int) (w:World) :
  Calls Tryz.prog 212 #[.int .i64 code] w fun e w'=>e = .returned (.tuple #[.int .i64 (pF code).1,.int .i64 (pF code).2])/\Below w.heap.size w w':=by
 have hd:=xL code
 have HR:Hid (pF code=if (iq code).2=1 then (((encW (iq code).1.toNat:Nat):Int),1) else (code,(iq code).2)):=rfl
 generalize hx:iq code=dw at *
 have HX:=Hd hx
 clear hx
 obtain ⟨x,st⟩:=dw
 simp only at hd
 by_cases h1:st=1
 ·subst h1
  obtain ⟨x,rfl⟩:=Int.eq_ofNat_of_zero_le hd.1
  go_enter Tryz.func212,Tryz.ntmps212
  go_wp2_with (first
   | (go_at_call 215;refine (lU _ _).mono ?_;rintro e w' ⟨rfl,rfl⟩;rw [HX.out])
   | (go_at_call 214;refine (pK x _ (by omega)).mono ?_;rintro e w1 ⟨rfl,b1⟩;have B1:=Hd ((by subst b1;exact Below.refl _ _:Below w.heap.size w w1));clear b1))
  go_ret2
  exact ⟨by rw [HR.out];simp,B1.out⟩
 ·have hs:(st==1)=false:=by simpa using h1
  go_enter Tryz.func212,Tryz.ntmps212
  go_wp2_with (first
   | (go_at_call 215;refine (lU _ _).mono ?_;rintro e w' ⟨rfl,rfl⟩;rw [HX.out]))
  go_ret2
  exact ⟨by rw [HR.out,if_neg h1];simp,Below.refl _ _⟩
theorem uk (code:Int) (w:World) :
  Calls Tryz.prog 217 #[.int .i64 code] w fun e w'=>e = .returned (.tuple #[.int .i64 (pF code).1,.int .i64 (pF code).2])/\Below w.heap.size w w':=by
 have hd:=xL code
 have HR:Hid (pF code=if (iq code).2=1 then (((encW (iq code).1.toNat:Nat):Int),1) else (code,(iq code).2)):=rfl
 generalize hx:iq code=dw at *
 have HX:=Hd hx
 clear hx
 obtain ⟨x,st⟩:=dw
 simp only at hd
 by_cases h1:st=1
 ·subst h1
  obtain ⟨x,rfl⟩:=Int.eq_ofNat_of_zero_le hd.1
  go_enter Tryz.func217,Tryz.ntmps217
  go_wp2_with (first
   | (go_at_call 178;refine (jD _ _).mono ?_;rintro e w' ⟨rfl,rfl⟩;rw [HX.out])
   | (go_at_call 161;refine (oW x _ (by omega)).mono ?_;rintro e w1 ⟨rfl,b1⟩;have B1:=Hd (b1);clear b1))
  go_ret2
  exact ⟨by rw [HR.out];simp,B1.out⟩
 ·have hs:(st==1)=false:=by simpa using h1
  go_enter Tryz.func217,Tryz.ntmps217
  go_wp2_with (first
   | (go_at_call 178;refine (jD _ _).mono ?_;rintro e w' ⟨rfl,rfl⟩;rw [HX.out]))
  go_ret2
  exact ⟨by rw [HR.out,if_neg h1];simp,Below.refl _ _⟩
def zg (c:Int):Int:=if bits .and .i64 c 1==1 then bits .xor .i64 (c / 2) 33800 else c / 2
def pM:Nat→Int→Int
 | 0,c=>c
 | k+1,c=>zg (pM k c)
def yK (c x:Int):Int:=pM 16 (bits .xor .i64 c (bits .and .i64 x 65535))
def kU (xs:List Int) (k:Nat):Int:=(xs.take k).foldl yK 65535
def Gw (xs:List Int):Int:=xs.foldl yK 65535
theorem yL (A:Option Addr) (n c:Nat) (xs:List Int) (w:World) (hA:bH w A n xs) (hn:n<=1099511627776) :
  Calls Tryz.prog 216 #[.slice A n c] w fun e w'=>e = .returned (.int .i64 (Gw xs))/\Below w.heap.size w w':=by
 obtain ⟨hx,hA⟩:=hA
 have HX:=Hd hx
 clear hx
 go_enter Tryz.func216,Tryz.ntmps216
 go_wp2_with fail
 go_loop [3,10] (fun v i=>∃k:Nat,k<=n/\i = .int .i64 k/\v = .int .i64 (kU xs k)) (fun _ i=>n - (intOf i).toNat)
 case atStart=>exact ⟨0,Nat.zero_le _,rfl,rfl⟩
 case round =>
  obtain ⟨k,hk,rfl,rfl⟩:=hrel
  by_cases hlt:k<n
  ·obtain ⟨b,o,rfl,hb,hc⟩:=hA (by omega)
   have hck:=hc k hlt
   clear hc
   have hs:kU xs (k+1)=yK (kU xs k) (xs[k]?.getD 0):=by
    have:k<xs.length:=by rw [HX.out];exact hlt
    rw [kU,List.take_succ_eq_append_getElem this,List.foldl_append,List.getElem?_eq_getElem this]
    rfl
   have HS:=Hd hs
   clear hs
   generalize xs[k]?.getD 0=x at *
   generalize kU xs k=c0 at *
   go_wp2_with fail
   go_loop [3,6] (fun v i=>∃j:Nat,j<=16/\i = .int .i64 j/\v = .int .i64 (pM j (bits .xor .i64 c0 (bits .and .i64 x 65535)))) (fun _ i=>16 - (intOf i).toNat)
   case atStart=>exact ⟨0,Nat.zero_le _,rfl,rfl⟩
   case round =>
    obtain ⟨j,hj,rfl,rfl⟩:=hrel
    by_cases hlj:j<16
    ·have hi:=pM.eq_2 (bits .xor .i64 c0 (bits .and .i64 x 65535)) j
     have HI:=Hd hi
     clear hi
     generalize pM j (bits .xor .i64 c0 (bits .and .i64 x 65535))=c2 at *
     by_cases ho:(bits .and .i64 c2 1==1)=true
     ·go_wp2
      go_round
      case rel=>exact ⟨j+1,by omega,by go_num,by rw [HI.out,zg,if_pos ho]⟩
      case measure=>simp [intOf];omega
     ·go_wp2
      go_round
      case rel=>exact ⟨j+1,by omega,by go_num,by rw [HI.out,zg,if_neg ho]⟩
      case measure=>simp [intOf];omega
    ·obtain rfl:j=16:=by omega
     go_wp2
     go_round
     case rel=>exact ⟨k+1,by omega,by go_num,by rw [HS.out];rfl⟩
     case measure=>simp [intOf];omega
  ·have hkn:k=n:=by omega
   subst hkn
   go_wp2
   go_ret
   exact ⟨aP (by rw [kU,List.take_of_length_le (by rw [HX.out];exact Nat.le_refl _)];rfl),Below.refl _ _⟩
theorem wZ (A:Option Addr) (n c:Nat) (xs:List Int) (w:World) (hA:bH w A n xs) (hn:n<=1099511627776) :
  Calls Tryz.prog 211 #[.slice A n c] w fun e w'=>e = .returned (.int .i64 (Gw xs))/\Below w.heap.size w w':=by
 obtain ⟨hx,hA⟩:=hA
 have HX:=Hd hx
 clear hx
 go_enter Tryz.func211,Tryz.ntmps211
 go_wp2_with fail
 go_loop [3,4] (fun v i=>∃k:Nat,k<=n/\i = .int .i64 k/\v = .int .i64 (kU xs k)) (fun _ i=>n - (intOf i).toNat)
 case atStart=>exact ⟨0,Nat.zero_le _,rfl,rfl⟩
 case round =>
  obtain ⟨k,hk,rfl,rfl⟩:=hrel
  by_cases hlt:k<n
  ·obtain ⟨b,o,rfl,hb,hc⟩:=hA (by omega)
   have hck:=hc k hlt
   clear hc
   have hs:kU xs (k+1)=yK (kU xs k) (xs[k]?.getD 0):=by
    have:k<xs.length:=by rw [HX.out];exact hlt
    rw [kU,List.take_succ_eq_append_getElem this,List.foldl_append,List.getElem?_eq_getElem this]
    rfl
   have HS:=Hd hs
   clear hs
   generalize xs[k]?.getD 0=x at *
   generalize kU xs k=c0 at *
   go_wp2_with fail
   go_loop [3,5] (fun v i=>∃j:Nat,j<=16/\i = .int .i64 j/\v = .int .i64 (pM j (bits .xor .i64 c0 (bits .and .i64 x 65535)))) (fun _ i=>16 - (intOf i).toNat)
   case atStart=>exact ⟨0,Nat.zero_le _,rfl,rfl⟩
   case round =>
    obtain ⟨j,hj,rfl,rfl⟩:=hrel
    by_cases hlj:j<16
    ·have hi:=pM.eq_2 (bits .xor .i64 c0 (bits .and .i64 x 65535)) j
     have HI:=Hd hi
     clear hi
     generalize pM j (bits .xor .i64 c0 (bits .and .i64 x 65535))=c2 at *
     by_cases ho:(bits .and .i64 c2 1==1)=true
     ·go_wp2
      go_round
      case rel=>exact ⟨j+1,by omega,by go_num,by rw [HI.out,zg,if_pos ho]⟩
      case measure=>simp [intOf];omega
     ·go_wp2
      go_round
      case rel=>exact ⟨j+1,by omega,by go_num,by rw [HI.out,zg,if_neg ho]⟩
      case measure=>simp [intOf];omega
    ·obtain rfl:j=16:=by omega
     go_wp2
     go_round
     case rel=>exact ⟨k+1,by omega,by go_num,by rw [HS.out];rfl⟩
     case measure=>simp [intOf];omega
  ·have hkn:k=n:=by omega
   subst hkn
   go_wp2
   go_ret
   exact ⟨aP (by rw [kU,List.take_of_length_le (by rw [HX.out];exact Nat.le_refl _)];rfl),Below.refl _ _⟩
theorem pO {f:List Int} {k:Nat} (h:k<f.length):eF (f.take (k+1))=eF (f.take k)++[Bi (f[k]?.getD 0)]:=by
 unfold eF
 rw [List.take_succ_eq_append_getElem h,List.map_append,List.getElem?_eq_getElem h]
 rfl
theorem wh (f:List Int):(eF f).length=f.length:=by simp [eF]
theorem tV {c:Int} {x:Nat} (h:c=(x:Int)):Bi c=((Cw.dataW x:Nat):Int):=by rw [Bi,h,Int.toNat_natCast]
def CG (f:List Int):Prop:=∀j,j<f.length→0<=f[j]?.getD 0/\f[j]?.getD 0<=4194303
theorem CJ {f:List Int} {count:Int} (h:bN f count 4194303=true):CG f/\(f.length:Int)=count:=by
 simp only [bN,Bool.and_eq_true,decide_eq_true_eq] at h
 exact ⟨fun j hj=>nR h.2 hj,h.1⟩
theorem jK {d:Dev} {fs:List (List Int)} (h:az d fs=true) {j:Nat} (hj:j<fs.length):CG (fs[j]?.getD [])/\((fs[j]?.getD []).length:Int)=fwI d:=CJ ((aj h).2.2 j hj)
theorem pQ (A:Option Addr) (n c:Nat) (f:List Int) (w:World) (h:bH w A n f) (hin:CG f) (hn:n<=16777216) :
  Calls Tryz.prog 136 #[.slice A n c] w fun e w'=>∃A' c',e = .returned (.slice A' n c')/\Own w.heap.size w' A' n c' (eF f)/\Below w.heap.size w w':=by
 obtain ⟨hx,hA⟩:=h
 have HX:=Hd hx
 have HIN:=Hd hin
 clear hx hin
 go_enter Tryz.func136,Tryz.ntmps136
 go_wp2_with fail
 go_loopw [3,4] (fun v i wr=>∃(k:Nat) (A':Option Addr) (c':Nat),k<=n/\i = .int .i64 k/\v = .slice A' k c'/\Own w.heap.size wr A' k c' (eF (f.take k))/\Below w.heap.size w wr) (fun _ i _=>n - (intOf i).toNat)
 case atStart=>exact ⟨0,_,0,Nat.zero_le _,rfl,rfl,by simpa [eF] using Own.new0 (Nat.le_refl _),aB (Below.refl _ _) _⟩
 case round =>
  obtain ⟨k,A',c',hk,rfl,rfl,ho,hbe⟩:=hrel
  have HO:=Hd ho
  have HE:=Hd hbe
  clear ho
  by_cases hlt:k<n
  ·obtain ⟨b,o,rfl,hb,hc⟩:=hA (by omega)
   have hck:=hc k hlt
   rw [←hbe.cell (p:=⟨b,o+k,none⟩) hb] at hck
   have hs:=hbe.size
   have hx:=HIN.out k (by rw [HX.out];exact hlt)
   have HT:=Hd (pO (f:=f) (k:=k) (by rw [HX.out];exact hlt))
   clear hc hbe
   generalize f[k]?.getD 0=x at *
   obtain ⟨x,rfl⟩:=Int.eq_ofNat_of_zero_le hx.1
   have HD:=Hd (tV (c:=(x:Int)) rfl)
   go_wp2_with (first
    | ((with_reducible refine (kI x _ (by omega)).mono ?_);rintro e w' ⟨rfl,rfl⟩)
    | (at_builtin;refine ax rfl _ _ rfl w.heap.size A' k c' (eF (f.take k)) _ rfl HO.out rfl (by omega) hs HE.out ?_;rintro g4 cap w4 o4 b4 gr4 hat4))
   go_roundw
   case rel=>exact ⟨k+1,_,_,by omega,by go_num,rfl,by rw [HT.out,HD.out];exact o4,b4⟩
   case measure=>simp [intOf];omega
  ·have hkn:k=n:=by omega
   subst hkn
   go_wp2_with fail
   go_ret
   exact ⟨_,_,rfl,by have:=HO.out;rwa [List.take_of_length_le (by rw [HX.out];exact Nat.le_refl _)] at this,HE.out⟩
def mP (fs:List (List Int)) (ts:List Int):Bool:=(List.range ts.length).all fun j=>inR (ts[j]?.getD 0) 0 ((fs.length:Int) - 1)
theorem uP {fs:List (List Int)} {ts:List Int} {k:Nat} (hk:k<ts.length) (h:inR (ts[k]?.getD 0) 0 ((fs.length:Int) - 1)=false):mP fs ts=false:=by
 cases hs:mP fs ts with
 | false=>rfl
 | true =>
  simp only [mP,List.all_eq_true,List.mem_range] at hs
  rw [hs k hk] at h
  cases h
theorem r9 {fs:List (List Int)} {ts:List Int} (h:∀j,j<ts.length→inR (ts[j]?.getD 0) 0 ((fs.length:Int) - 1)=true):mP fs ts=true:=by
 simp only [mP,List.all_eq_true,List.mem_range]
 exact h
def jy (d:Dev) (fs:List (List Int)) (ts:List Int):Int:=if (az d fs && mP fs ts)=true then Gw (mh fs ts ts.length) else -1
theorem sD (d:Dev) (A:Option Addr) (n c:Nat) (fs:List (List Int)) (T:Option Addr) (m c1:Nat) (ts:List Int) (w:World) (hA:dZ w A n fs) (hT:bH w T m ts) (hz:af fs<=1099511627776) (hm:m<=16777216) :
  Calls Tryz.prog 171 #[.agg #[.int .i64 d.W,.int .i64 d.H,.int .i64 d.T,.int .i64 d.R],.slice A n c,.slice T m c1] w fun e w'=>e = .returned (.int .i64 (jy d fs ts))/\Below w.heap.size w w':=by
 have hB0:Below w.heap.size w (w.alloc (.cells #[.int .i64 d.W,.int .i64 d.H,.int .i64 d.T,.int .i64 d.R] 25)):=aB (Below.refl _ _) _
 have hX:=hA.1
 obtain ⟨hn,hrow⟩:=dz hX hz
 have HX:=Hd hX
 have HI:=Hd hA
 have HJ:=Hd hT
 have hY:=hT.1
 have HY:=Hd hY
 clear hA hX hT hY hrow
 go_enter Tryz.func171,Tryz.ntmps171
 go_wp2_with fail
 refine (gB d A n c fs _ (HI.out.below hB0) hz).mono ?_
 rintro e w1 ⟨rfl,b1⟩
 have hs1:=b1.size
 simp only [World.size_alloc] at hs1
 have B1:=Hd (aA hB0 b1)
 clear b1
 cases hf:az d fs with
 | false =>
  have HF:=Hd hf
  clear hf
  go_wp2_with fail
  go_ret
  exact ⟨aP (by rw [jy,HF.out];simp),B1.out⟩
 | true =>
  have hfb:=jq (aj hf).1
  obtain ⟨F,hF⟩:∃F:Nat,fwI d=(F:Int):=⟨(fwI d).toNat,by omega⟩
  rw [hF] at hfb
  have HFW:=Hd hF
  have HF:=Hd hf
  clear hf hF
  go_wp2_with fail
  obtain ⟨_,hAr⟩:=HI.out.below B1.out
  obtain ⟨_,hTr⟩:=HJ.out.below B1.out
  go_loopw [7,18] (fun v i wr=>∃(k:Nat) (A':Option Addr) (l c':Nat),k<=m/\i = .int .i64 k/\v = .slice A' l c'/\l<=11 * k/\Own w1.heap.size wr A' l c' (mh fs ts k)/\Below w1.heap.size w1 wr/\∀j,j<k→inR (ts[j]?.getD 0) 0 ((n:Int) - 1)=true) (fun _ i _=>m - (intOf i).toNat)
  case atStart=>exact ⟨0,none,0,0,Nat.zero_le _,rfl,rfl,Nat.zero_le _,Own.nil,Below.refl _ _,by intro j hj;omega⟩
  case round =>
   obtain ⟨k,A',l,c',hk,rfl,rfl,hl,ho,hbe,hall⟩:=hrel
   have HO:=Hd ho
   have HE:=Hd hbe
   have HALL:=Hd hall
   clear ho hall
   by_cases hlt:k<m
   ·obtain ⟨b,o,rfl,hb,hc⟩:=hTr (by omega)
    have hck:=hc k hlt
    rw [←hbe.cell (p:=⟨b,o+k,none⟩) hb] at hck
    have HBD:Hid (inR (ts[k]?.getD 0) 0 ((n:Int) - 1)=false→mP fs ts=false):=fun h=>uP (by rw [HY.out];exact hlt) (by rw [HX.out];exact h)
    have HG:Hid (inR (ts[k]?.getD 0) 0 ((n:Int) - 1)=true→∀j,j<k+1→inR (ts[j]?.getD 0) 0 ((n:Int) - 1)=true):=fun h=>gF HALL.out h
    have HW:=Hd (mh.eq_2 fs ts k)
    clear hc hbe
    generalize ts[k]?.getD 0=t at *
    cases hin:inR t 0 ((n:Int) - 1) with
    | false =>
     have HB':=Hd (HBD.out hin)
     clear HG HBD
     go_wp2_with (go_at_call 116;refine (aN _ _ _ _).mono ?_;rintro e w' ⟨rfl,rfl⟩)
     go_ret
     exact ⟨aP (by rw [jy,HF.out,HB'.out];simp),aA B1.out HE.out⟩
    | true =>
     have HG':=Hd (HG.out hin)
     have htb:=ak.1 hin
     clear HG HBD
     obtain ⟨b2,o2,rfl,hb2,hc2⟩:=hAr (by omega)
     obtain ⟨A1,m1,c3,hck2,hI1⟩:=hc2 t.toNat (by omega)
     rw [←HE.out.cell (p:=⟨b2,o2+t.toNat,none⟩) hb2] at hck2
     have hfr:=jK HF.out (j:=t.toNat) (by rw [HX.out];omega)
     have hm1:m1=F:=by have:=hfr.2;rw [hI1.1,HFW.out] at this;omega
     obtain ⟨hxf,hAf⟩:=hI1
     have HXF:=Hd hxf
     have HIN:=Hd hfr.1
     subst hm1
     clear hc2 hxf hfr
     generalize fs[t.toNat]?.getD []=f at *
     go_wp2_with (go_at_call 116;refine (aN _ _ _ _).mono ?_;rintro e w' ⟨rfl,rfl⟩)
     clear hck hck2
     go_loopw [7,33] (fun v i wr=>∃(j:Nat) (A':Option Addr) (l' c':Nat),j<=m1/\i = .int .i64 j/\v = .slice A' l' c'/\l'=l+j/\Own w1.heap.size wr A' l' c' (mh fs ts k++eF (f.take j))/\Below w1.heap.size w1 wr) (fun _ i _=>m1 - (intOf i).toNat)
     case atStart=>exact ⟨0,_,_,_,Nat.zero_le _,rfl,rfl,rfl,by simpa [eF] using HO.out,HE.out⟩
     case round =>
      obtain ⟨j,A2,l2,c2,hj,rfl,rfl,hl2,ho2,hbe2⟩:=hrel
      have HL2:=Hd hl2
      have hl2':l2<=11 * k+m1:=by omega
      have HO2:=Hd ho2
      have HE2:=Hd hbe2
      have hs2:=hbe2.size
      clear ho2 hl2
      by_cases hlj:j<m1
      ·obtain ⟨b3,o3,rfl,hb3,hc3⟩:=hAf (by omega)
       have hck3:=hc3 j hlj
       rw [←hbe2.cell (p:=⟨b3,o3+j,none⟩) hb3] at hck3
       have hx:=HIN.out j (by rw [HXF.out];exact hlj)
       have HT:=Hd (pO (f:=f) (k:=j) (by rw [HXF.out];exact hlj))
       clear hc3 hbe2
       generalize f[j]?.getD 0=x at *
       obtain ⟨x,rfl⟩:=Int.eq_ofNat_of_zero_le hx.1
       have HD:=Hd (tV (c:=(x:Int)) rfl)
       go_wp2_with (first
        | ((with_reducible refine (jc x _ (by omega)).mono ?_);rintro e w' ⟨rfl,rfl⟩)
        | (at_builtin;refine ax rfl _ _ rfl w1.heap.size A2 l2 c2 (mh fs ts k++eF (f.take j)) _ rfl HO2.out rfl (by omega) hs2 HE2.out ?_;rintro g4 cap w4 o4 b4 gr4 hat4))
       go_roundw
       case rel=>exact ⟨j+1,_,_,_,by omega,by go_num,rfl,by have:=HL2.out;omega,by rw [HT.out,HD.out,←List.append_assoc];exact o4,b4⟩
       case measure=>simp [intOf];omega
      ·have hjn:j=m1:=by omega
       subst hjn
       go_wp2_with fail
       go_roundw
       case rel=>exact ⟨k+1,_,_,_,by omega,by go_num,rfl,by have:=HL2.out;omega,by rw [HW.out];have:=HO2.out;rwa [List.take_of_length_le (by rw [HXF.out];exact Nat.le_refl _)] at this,HE2.out,HG'.out⟩
       case measure=>simp [intOf];omega
   ·have hkm:k=m:=by omega
    subst hkm
    go_wp2_with fail
    refine (yL A' l c' _ _ HO.out.ints (by omega)).mono ?_
    rintro e w2 ⟨rfl,b2⟩
    go_wp2_with fail
    go_ret
    exact ⟨aP (by rw [jy,HF.out,r9 (by rw [HY.out,HX.out];exact HALL.out),HY.out];simp),aA (aA B1.out HE.out) b2⟩
theorem qz (d:Dev) (A:Option Addr) (n c:Nat) (fs:List (List Int)) (T:Option Addr) (m c1:Nat) (ts:List Int) (w:World) (hA:dZ w A n fs) (hT:bH w T m ts) (hz:af fs<=1099511627776) (hm:m<=16777216) :
  Calls Tryz.prog 163 #[.agg #[.int .i64 d.W,.int .i64 d.H,.int .i64 d.T,.int .i64 d.R],.slice A n c,.slice T m c1] w fun e w'=>e = .returned (.int .i64 (jy d fs ts))/\Below w.heap.size w w':=by
 have hB0:Below w.heap.size w (w.alloc (.cells #[.int .i64 d.W,.int .i64 d.H,.int .i64 d.T,.int .i64 d.R] 25)):=aB (Below.refl _ _) _
 have hX:=hA.1
 obtain ⟨hn,hrow⟩:=dz hX hz
 have HX:=Hd hX
 have HI:=Hd hA
 have HJ:=Hd hT
 have hY:=hT.1
 have HY:=Hd hY
 clear hA hX hT hY hrow
 go_enter Tryz.func163,Tryz.ntmps163
 go_wp2_with fail
 refine (iK d A n c fs _ (HI.out.below hB0) hz).mono ?_
 rintro e w1 ⟨rfl,b1⟩
 have hs1:=b1.size
 simp only [World.size_alloc] at hs1
 have B1:=Hd (aA hB0 b1)
 clear b1
 cases hf:az d fs with
 | false =>
  have HF:=Hd hf
  clear hf
  go_wp2_with fail
  go_ret
  exact ⟨aP (by rw [jy,HF.out];simp),B1.out⟩
 | true =>
  have hfb:=jq (aj hf).1
  obtain ⟨F,hF⟩:∃F:Nat,fwI d=(F:Int):=⟨(fwI d).toNat,by omega⟩
  rw [hF] at hfb
  have HFW:=Hd hF
  have HF:=Hd hf
  clear hf hF
  go_wp2_with fail
  obtain ⟨_,hAr⟩:=HI.out.below B1.out
  obtain ⟨_,hTr⟩:=HJ.out.below B1.out
  go_loopw [7,8] (fun v i wr=>∃(k:Nat) (A':Option Addr) (l c':Nat),k<=m/\i = .int .i64 k/\v = .slice A' l c'/\l<=11 * k/\Own w1.heap.size wr A' l c' (mh fs ts k)/\Below w1.heap.size w1 wr/\∀j,j<k→inR (ts[j]?.getD 0) 0 ((n:Int) - 1)=true) (fun _ i _=>m - (intOf i).toNat)
  case atStart=>exact ⟨0,_,0,0,Nat.zero_le _,rfl,rfl,Nat.zero_le _,Own.new0 (Nat.le_refl _),aB (Below.refl _ _) _,by intro j hj;omega⟩
  case round =>
   obtain ⟨k,A',l,c',hk,rfl,rfl,hl,ho,hbe,hall⟩:=hrel
   have HO:=Hd ho
   have HE:=Hd hbe
   have HALL:=Hd hall
   clear ho hall
   by_cases hlt:k<m
   ·obtain ⟨b,o,rfl,hb,hc⟩:=hTr (by omega)
    have hck:=hc k hlt
    rw [←hbe.cell (p:=⟨b,o+k,none⟩) hb] at hck
    have HBD:Hid (inR (ts[k]?.getD 0) 0 ((n:Int) - 1)=false→mP fs ts=false):=fun h=>uP (by rw [HY.out];exact hlt) (by rw [HX.out];exact h)
    have HG:Hid (inR (ts[k]?.getD 0) 0 ((n:Int) - 1)=true→∀j,j<k+1→inR (ts[j]?.getD 0) 0 ((n:Int) - 1)=true):=fun h=>gF HALL.out h
    have HW:=Hd (mh.eq_2 fs ts k)
    clear hc hbe
    generalize ts[k]?.getD 0=t at *
    cases hin:inR t 0 ((n:Int) - 1) with
    | false =>
     have HB':=Hd (HBD.out hin)
     clear HG HBD
     rcases fT.1 hin with h|h
     ·have hd:decide (t<0)=true:=by simp;omega
      go_wp2_with fail
      go_ret
      exact ⟨aP (by rw [jy,HF.out,HB'.out];simp),aA B1.out HE.out⟩
     ·by_cases h0:t<0
      ·have hd:decide (t<0)=true:=by simp;omega
       go_wp2_with fail
       go_ret
       exact ⟨aP (by rw [jy,HF.out,HB'.out];simp),aA B1.out HE.out⟩
      ·have hd:decide (t<0)=false:=by simp;omega
       have hd':decide (t≥(n:Int))=true:=by simp;omega
       go_wp2_with fail
       go_ret
       exact ⟨aP (by rw [jy,HF.out,HB'.out];simp),aA B1.out HE.out⟩
    | true =>
     have HG':=Hd (HG.out hin)
     have htb:=ak.1 hin
     clear HG HBD
     obtain ⟨b2,o2,rfl,hb2,hc2⟩:=hAr (by omega)
     obtain ⟨A1,m1,c3,hck2,hI1⟩:=hc2 t.toNat (by omega)
     rw [←HE.out.cell (p:=⟨b2,o2+t.toNat,none⟩) hb2] at hck2
     have hfr:=jK HF.out (j:=t.toNat) (by rw [HX.out];omega)
     have hm1:m1=F:=by have:=hfr.2;rw [hI1.1,HFW.out] at this;omega
     have HJ1:=Hd (hI1.below HE.out)
     have HIN:=Hd hfr.1
     subst hm1
     have hd:decide (t<0)=false:=by simp;omega
     have hd':decide (t≥(n:Int))=false:=by simp;omega
     have hs0:=HE.out.size
     clear hc2 hfr hI1
     generalize fs[t.toNat]?.getD []=f at *
     go_wp2_with fail
     refine (pQ A1 m1 c3 f _ HJ1.out HIN.out (by omega)).mono ?_
     rintro e w2 ⟨A2,c2,rfl,o2',b2'⟩
     have hs2:=b2'.size
     have O2:=Hd o2'
     have E2:=Hd (aA HE.out b2')
     have OO:=Hd (HO.out.below b2')
     clear o2' b2'
     go_wp2_with (at_builtin;refine bP rfl _ _ rfl w1.heap.size A' l c' _ rfl OO.out A2 m1 c2 _ rfl O2.out.ints (by omega) (by omega) E2.out ?_;rintro A4 c4 w4 o4 b4 gr4)
     go_roundw
     case rel=>exact ⟨k+1,_,_,_,by omega,by go_num,rfl,by omega,by rw [HW.out];exact o4,b4,HG'.out⟩
     case measure=>simp [intOf];omega
   ·have hkm:k=m:=by omega
    subst hkm
    go_wp2_with fail
    refine (wZ A' l c' _ _ HO.out.ints (by omega)).mono ?_
    rintro e w2 ⟨rfl,b2⟩
    go_wp2_with fail
    go_ret
    exact ⟨aP (by rw [jy,HF.out,r9 (by rw [HY.out,HX.out];exact HALL.out),HY.out];simp),aA (aA B1.out HE.out) b2⟩
end Go.Proofs.YtignkfhdkcgkgaaGreat
