/- Bit operations of int on numbers that are not below 0; plain lemmas. -/
import Derived.Laws.BitsAllLaws
import Derived.Laws.BitsLemmas
import Derived.Test.YtignkfhdkcgkgaaGreatHar
namespace Go.Proofs.YtignkfhdkcgkgaaGreat
set_option maxHeartbeats 1000000
set_option maxRecDepth 100000
open Go.RowKit
theorem mh (a:Nat) (ha:a<9223372036854775808):(BitVec.ofInt 64 (a:Int)).toNat=a:=by
 rw [BitVec.ofInt_natCast,BitVec.toNat_ofNat];exact Nat.mod_eq_of_lt (by omega)
theorem nz (a b:Nat) (ha:a<9223372036854775808) (hb:b<9223372036854775808):bits .and .i64 (a:Int) (b:Int)=((a &&& b:Nat):Int):=by
 have hx:a &&& b<2 ^ 63:=Nat.and_lt_two_pow _ (by omega)
 show IntKind.i64.wrap ((BitVec.ofInt 64 (a:Int) &&& BitVec.ofInt 64 (b:Int)).toNat:Int)=_
 rw [BitVec.toNat_and,mh a ha,mh b hb,IntKind.wrap_i64]
 omega
theorem il (a b:Nat) (ha:a<9223372036854775808) (hb:b<9223372036854775808):bits .or .i64 (a:Int) (b:Int)=((a ||| b:Nat):Int):=by
 have hx:a ||| b<2 ^ 63:=Nat.or_lt_two_pow (by omega) (by omega)
 show IntKind.i64.wrap ((BitVec.ofInt 64 (a:Int) ||| BitVec.ofInt 64 (b:Int)).toNat:Int)=_
 rw [BitVec.toNat_or,mh a ha,mh b hb,IntKind.wrap_i64]
 omega
theorem jQ (a b:Nat) (ha:a<9223372036854775808) (hb:b<9223372036854775808):bits .xor .i64 (a:Int) (b:Int)=((a ^^^ b:Nat):Int):=by
 have hx:a ^^^ b<2 ^ 63:=Nat.xor_lt_two_pow (by omega) (by omega)
 show IntKind.i64.wrap ((BitVec.ofInt 64 (a:Int) ^^^ BitVec.ofInt 64 (b:Int)).toNat:Int)=_
 rw [BitVec.toNat_xor,mh a ha,mh b hb,IntKind.wrap_i64]
 omega
theorem Iu (a k:Nat) (h:a<2 ^ k):a ||| 2 ^ k=a+2 ^ k:=by
 rw [Nat.or_comm,nat_join k (2 ^ k) a (Nat.mod_self _) h,Nat.add_comm]
theorem kZ {k:Nat} (h:k<=62):2 ^ k<9223372036854775808:=Nat.lt_of_le_of_lt (Nat.pow_le_pow_right (by omega) h) (by decide)
theorem Ew (a:Int) (k:Nat) (h0:0<=a) (h:a<2 ^ k) (hk:k<=61):bits .or .i64 a (2 ^ k)=a+2 ^ k:=by
 obtain ⟨a,rfl⟩:=Int.eq_ofNat_of_zero_le h0
 have h':a<2 ^ k:=by exact_mod_cast h
 have hp:=kZ (show k<=62 by omega)
 have e:((2:Int) ^ k)=((2 ^ k:Nat):Int):=by simp
 rw [e,il a (2 ^ k) (by omega) hp,Iu a k h']
 simp
theorem jY (k:Nat):((2:Int) ^ k)=((2 ^ k:Nat):Int):=by simp
theorem pM {k:Nat} (h:k<=62):wrap64 (2 ^ k)=2 ^ k:=by
 have hp:=kZ h
 rw [jY]
 generalize 2 ^ k=p at *
 exact IntWalk.wrap64_in _ ⟨by omega,by omega⟩
def bL (d:Dev):Bool:=inR d.W 3 6 && (inR d.H 3 6 && (inR d.T 1 4 && (decide (d.R=-1) || inR d.R 1 (d.W - 2))))
def mR (d:Dev) (r:Reg):Bool:=bL d && (decide (0<=r.X0) && (decide (r.X0<=r.X1) && (decide (r.X1<d.W) && (decide (0<=r.Y0) && (decide (r.Y0<=r.Y1) && decide (r.Y1<d.H))))))
theorem ah {d:Dev} (h:bL d=true):3<=d.W/\d.W<=6/\3<=d.H/\d.H<=6/\1<=d.T/\d.T<=4/\-1<=d.R/\d.R<=d.W - 2:=by
 simp only [bL,Bool.and_eq_true,Bool.or_eq_true,aa,decide_eq_true_eq] at h;omega
theorem fM (d:Dev) (w:World) :
  Calls Tryz.prog 113 #[.agg #[.int .i64 d.W,.int .i64 d.H,.int .i64 d.T,.int .i64 d.R]] w fun e w'=>e = .returned (.bool (bL d))/\Below w.heap.size w w':=by
 by_cases hW:inR d.W 3 6=true
 ·have hb:=aa.1 hW
  go_enter Tryz.func113,Tryz.ntmps113
  go_wp2_with (first|(go_at_call 116;refine (aN _ _ _ _).mono ?_;rintro e w' ⟨rfl,rfl⟩))
  all_goals (go_ret;exact ⟨by simp [bL, *],aB (Below.refl _ _) _⟩)
 ·go_enter Tryz.func113,Tryz.ntmps113
  go_wp2_with (first|(go_at_call 116;refine (aN _ _ _ _).mono ?_;rintro e w' ⟨rfl,rfl⟩))
  all_goals (go_ret;exact ⟨by simp [bL, *],aB (Below.refl _ _) _⟩)
theorem dJ (d:Dev) (w:World) :
  Calls Tryz.prog 138 #[.agg #[.int .i64 d.W,.int .i64 d.H,.int .i64 d.T,.int .i64 d.R]] w fun e w'=>e = .returned (.bool (bL d))/\Below w.heap.size w w':=by
 by_cases hW:inR d.W 3 6=true
 ·have hb:=aa.1 hW
  go_enter Tryz.func138,Tryz.ntmps138
  go_wp2_with (first|(go_at_call 175;refine (aX _ _ _ _).mono ?_;rintro e w' ⟨rfl,rfl⟩))
  all_goals (go_ret;exact ⟨by simp [bL, *],aB (Below.refl _ _) _⟩)
 ·go_enter Tryz.func138,Tryz.ntmps138
  go_wp2_with (first|(go_at_call 175;refine (aX _ _ _ _).mono ?_;rintro e w' ⟨rfl,rfl⟩))
  all_goals (go_ret;exact ⟨by simp [bL, *],aB (Below.refl _ _) _⟩)
theorem mY (d:Dev) (r:Reg) (w:World) :
  Calls Tryz.prog 42 #[.agg #[.int .i64 d.W,.int .i64 d.H,.int .i64 d.T,.int .i64 d.R],.agg #[.int .i64 r.X0,.int .i64 r.Y0,.int .i64 r.X1,.int .i64 r.Y1]] w fun e w'=>e = .returned (.bool (mR d r))/\Below w.heap.size w w':=by
 go_enter Tryz.func42,Tryz.ntmps42
 go_wp2_with (first|(go_at_call 113;refine (fM d _).mono ?_;rintro e w' ⟨rfl,hb⟩;obtain ⟨hc,hf⟩:=aQ hb))
 all_goals (go_ret;exact ⟨aI (by clear hc hf;simp [mR, *] <;> omega),aA (aB (aB (Below.refl _ _) _) _) hb⟩)
theorem oI (d:Dev) (r:Reg) (w:World) :
  Calls Tryz.prog 89 #[.agg #[.int .i64 d.W,.int .i64 d.H,.int .i64 d.T,.int .i64 d.R],.agg #[.int .i64 r.X0,.int .i64 r.Y0,.int .i64 r.X1,.int .i64 r.Y1]] w fun e w'=>e = .returned (.bool (mR d r))/\Below w.heap.size w w':=by
 go_enter Tryz.func89,Tryz.ntmps89
 go_wp2_with (first|(go_at_call 138;refine (dJ d _).mono ?_;rintro e w' ⟨rfl,hb⟩;obtain ⟨hc,hf⟩:=aQ hb))
 all_goals (go_ret;exact ⟨aI (by clear hc hf;simp [mR, *] <;> omega),aA (aB (aB (Below.refl _ _) _) _) hb⟩)
def nQ (N:Nat) (ts:List Int) (b:Int):Nat→List Int
 | 0=>List.replicate N 0
 | k+1=>(nQ N ts b k).set (ts[k]?.getD 0).toNat (bits .and .i64 (b / 2 ^ k) 1)
def tiles (d:Dev):Nat:=(d.W * d.H).toNat
def gu (d:Dev) (ts:List Int) (b:Int):List Int :=
 if bL d=true/\ts.length<=40/\∀j,j<ts.length→inR (ts[j]?.getD 0) 0 ((tiles d:Int) - 1)=true then nQ (tiles d) ts b ts.length else []
theorem jf (N:Nat) (ts:List Int) (b:Int) (k:Nat):(nQ N ts b k).length=N:=by
 induction k with
 | zero=>simp [nQ]
 | succ k ih=>simp [nQ,ih]
theorem yE (d:Dev) (ts:List Int) (b:Int):(gu d ts b).length<=36:=by
 unfold gu
 split
 ·rename_i h
  rw [jf]
  have h1:=ah h.1
  have h2:=Int.mul_le_mul h1.2.1 h1.2.2.2.1 (by omega) (by omega)
  unfold tiles
  omega
 ·simp
theorem bO {d:Dev} (h:bL d=true):d.W * d.H=(tiles d:Int)/\9<=tiles d/\tiles d<=36:=by
 obtain ⟨h1,h2,h3,h4,_⟩:=ah h
 have a:9<=d.W * d.H:=by
  have:=Int.mul_le_mul h1 h3 (by omega) (by omega)
  omega
 have b:d.W * d.H<=36:=by
  have:=Int.mul_le_mul h2 h4 (by omega) (by omega)
  omega
 unfold tiles
 omega
theorem D7 (d:Dev) (A:Option Addr) (n c:Nat) (ts:List Int) (b:Int) (w:World) (hA:bN w A n ts) (hn:n<=16777216) :
  Calls Tryz.prog 82 #[.agg #[.int .i64 d.W,.int .i64 d.H,.int .i64 d.T,.int .i64 d.R],.slice A n c,.int .i64 b] w fun e w'=>∃A' m c',e = .returned (.slice A' m c')/\Own w.heap.size w' A' m c' (gu d ts b)/\Below w.heap.size w w':=by
 have HI:=Hd hA
 have hX:=hA.1
 have HX:=Hd hX
 clear hA hX
 go_enter Tryz.func82,Tryz.ntmps82
 go_wp2_with fail
 refine (fM d _).mono ?_
 rintro e w1 ⟨rfl,b1⟩
 have hs1:=b1.size
 simp only [World.size_alloc] at hs1
 obtain ⟨hcc,hff⟩:=aQ b1
 have B1:=Hd (aA (aB (Below.refl _ _) _) b1)
 clear b1
 cases hd:bL d with
 | false =>
  have HD:=Hd hd
  clear hd
  go_wp2_with fail
  go_ret
  exact ⟨none,0,0,rfl,by rw [gu,if_neg (by simp [HD.out])];exact Own.nil,B1.out⟩
 | true =>
  obtain ⟨hN,hN1,hN2⟩:=bO hd
  have HD:=Hd hd
  clear hd
  by_cases h40:n<=40
  ·have d40:decide ((n:Int)>40)=false:=by simp;omega
   obtain ⟨i0,hi,hz0,hz1,hz2⟩:=info_parts fE
   have hmk:=fun W=>cO (P:=Tryz.prog) 27 3 i0 _ Tryz.underlying27 hi hz0 .i64 .i64 (tiles d) (tiles d) (Nat.le_refl _) (by rw [hz2];omega) (by omega) W
   rw [hz1,Nat.mul_one,show (Value.int .i64 0).cells=#[Value.int .i64 0] from rfl,iy] at hmk
   clear hi hz0 hz1 hz2
   go_wp2_with fail
   have hI:=HI.out.below B1.out
   obtain ⟨_,hA⟩:=hI
   generalize hT:tiles d=N at *
   have HT:=Hd hT
   clear hT hN hcc hff hmk
   go_loopw [26] (fun i wr=>∃k:Nat,k<=n/\i = .int .i64 k/\wr=w1.alloc (.cells (arr (nQ N ts b k)) 3)/\∀j,j<k→inR (ts[j]?.getD 0) 0 ((N:Int) - 1)=true) (fun i _=>n - (intOf i).toNat)
   case atStart=>exact ⟨0,Nat.zero_le _,rfl,rfl,by intro j hj;omega⟩
   case round =>
    obtain ⟨k,hk,rfl,rfl,hall⟩:=hrel
    have HALL:=Hd hall
    clear hall
    by_cases hlt:k<n
    ·obtain ⟨bb,o,rfl,hb,hc⟩:=hA (by omega)
     have hck:=hc k hlt
     have hs:=nQ.eq_2 N ts b k
     have HS:=Hd hs
     have HR:Hid (inR (ts[k]?.getD 0) 0 ((N:Int) - 1)=true→∀j,j<k+1→inR (ts[j]?.getD 0) 0 ((N:Int) - 1)=true):=by
      intro h j hj
      rcases Nat.lt_or_ge j k with h1|h1
      ·exact HALL.out j h1
      ·obtain rfl:j=k:=by omega
       exact h
     have HF:Hid (inR (ts[k]?.getD 0) 0 ((N:Int) - 1)=false→gu d ts b=[]):=by
      intro h
      rw [gu,if_neg]
      rintro ⟨_,_,h3⟩
      have:=h3 k (by rw [HX.out];exact hlt)
      rw [HT.out,h] at this
      cases this
     clear hc hs
     have hl:=jf N ts b k
     have HL:=Hd hl
     generalize nQ N ts b k=ps at *
     generalize ts[k]?.getD 0=t at *
     by_cases ht:inR t 0 ((N:Int) - 1)=true
     ·have htb:=aa.1 ht
      have hlt':t.toNat<ps.length:=by omega
      have hg:=dz hlt'
      have hz:t.toNat<(arr ps).size:=by rw [Dx];exact hlt'
      have hi0:(0:Int)<=(k:Int):=by omega
      have hi1:(k:Int)<=63:=by omega
      clear hl
      go_wp2_with (go_at_call 116;refine (aN _ _ _ _).mono ?_;rintro e w' ⟨rfl,rfl⟩)
      go_roundw
      case rel=>exact ⟨k+1,by omega,by go_num,by rw [iJ,HS.out],HR.out ht⟩
      case measure=>simp [intOf];omega
     ·have htf:=Bool.not_eq_true _ ▸ ht
      clear hl
      go_wp2_with (go_at_call 116;refine (aN _ _ _ _).mono ?_;rintro e w' ⟨rfl,rfl⟩)
      go_ret
      exact ⟨none,0,0,rfl,by rw [HF.out htf];exact Own.nil,aB B1.out _⟩
    ·have hkn:k=n:=by omega
     subst hkn
     go_wp2
     go_ret
     refine ⟨_,_,_,rfl,?_,aB B1.out _⟩
     rw [gu,if_pos ⟨HD.out,by rw [HX.out];exact h40,by rw [HX.out,HT.out];exact HALL.out⟩,HX.out,HT.out]
     exact Own.arr (aK _ _) (by omega) (by unfold maxLen;omega) (jf _ _ _ _)
  ·have d40:decide ((n:Int)>40)=true:=by simp;omega
   clear hN
   go_wp2_with fail
   go_ret
   exact ⟨none,0,0,rfl,by rw [gu,if_neg (by simp only [HX.out];omega)];exact Own.nil,B1.out⟩
theorem BL (d:Dev) (A:Option Addr) (n c:Nat) (ts:List Int) (b:Int) (w:World) (hA:bN w A n ts) (hn:n<=16777216) :
  Calls Tryz.prog 124 #[.agg #[.int .i64 d.W,.int .i64 d.H,.int .i64 d.T,.int .i64 d.R],.slice A n c,.int .i64 b] w fun e w'=>∃A' m c',e = .returned (.slice A' m c')/\Own w.heap.size w' A' m c' (gu d ts b)/\Below w.heap.size w w':=by
 have HI:=Hd hA
 have hX:=hA.1
 have HX:=Hd hX
 clear hA hX
 go_enter Tryz.func124,Tryz.ntmps124
 go_wp2_with fail
 refine (dJ d _).mono ?_
 rintro e w1 ⟨rfl,b1⟩
 have hs1:=b1.size
 simp only [World.size_alloc] at hs1
 obtain ⟨hcc,hff⟩:=aQ b1
 have B1:=Hd (aA (aB (Below.refl _ _) _) b1)
 clear b1
 cases hd:bL d with
 | false =>
  have HD:=Hd hd
  clear hd
  go_wp2_with fail
  go_ret
  exact ⟨_,0,0,rfl,by rw [gu,if_neg (by simp [HD.out])];exact Own.new0 (by omega),aB B1.out _⟩
 | true =>
  obtain ⟨hN,hN1,hN2⟩:=bO hd
  have HD:=Hd hd
  clear hd
  by_cases h40:n<=40
  ·have d40:decide ((n:Int)>40)=false:=by simp;omega
   obtain ⟨i0,hi,hz0,hz1,hz2⟩:=info_parts fE
   have hmk:=fun W=>cO (P:=Tryz.prog) 27 3 i0 _ Tryz.underlying27 hi hz0 .i64 .i64 (tiles d) (tiles d) (Nat.le_refl _) (by rw [hz2];omega) (by omega) W
   rw [hz1,Nat.mul_one,show (Value.int .i64 0).cells=#[Value.int .i64 0] from rfl,iy] at hmk
   clear hi hz0 hz1 hz2
   go_wp2_with fail
   have hI:=HI.out.below B1.out
   obtain ⟨_,hA⟩:=hI
   generalize hT:tiles d=N at *
   have HT:=Hd hT
   clear hT hN hcc hff hmk
   go_loopw [8] (fun i wr=>∃k nq:Nat,k<=n/\i = .int .i64 k/\wr=(w1.alloc (.cells (arr (nQ N ts b k)) 3)).drewN nq/\∀j,j<k→inR (ts[j]?.getD 0) 0 ((N:Int) - 1)=true) (fun i _=>n - (intOf i).toNat)
   case atStart=>exact ⟨0,0,Nat.zero_le _,rfl,rfl,by intro j hj;omega⟩
   case round =>
    obtain ⟨k,nq,hk,rfl,rfl,hall⟩:=hrel
    have HALL:=Hd hall
    clear hall
    by_cases hlt:k<n
    ·obtain ⟨bb,o,rfl,hb,hc⟩:=hA (by omega)
     have hck:=hc k hlt
     have hs:=nQ.eq_2 N ts b k
     have HS:=Hd hs
     have HR:Hid (inR (ts[k]?.getD 0) 0 ((N:Int) - 1)=true→∀j,j<k+1→inR (ts[j]?.getD 0) 0 ((N:Int) - 1)=true):=by
      intro h j hj
      rcases Nat.lt_or_ge j k with h1|h1
      ·exact HALL.out j h1
      ·obtain rfl:j=k:=by omega
       exact h
     have HF:Hid (inR (ts[k]?.getD 0) 0 ((N:Int) - 1)=false→gu d ts b=[]):=by
      intro h
      rw [gu,if_neg]
      rintro ⟨_,_,h3⟩
      have:=h3 k (by rw [HX.out];exact hlt)
      rw [HT.out,h] at this
      cases this
     clear hc hs
     have hl:=jf N ts b k
     have HL:=Hd hl
     generalize nQ N ts b k=ps at *
     generalize ts[k]?.getD 0=t at *
     by_cases ht:inR t 0 ((N:Int) - 1)=true
     ·have htb:=aa.1 ht
      have hlt':t.toNat<ps.length:=by omega
      have hg:=dz hlt'
      have hz:t.toNat<(arr ps).size:=by rw [Dx];exact hlt'
      have hi0:(0:Int)<=(k:Int):=by omega
      have hi1:(k:Int)<=63:=by omega
      clear hl
      go_wp2_with fail
      go_region
      go_wp2_with fail
      go_roundw
      case rel=>exact ⟨k+1,_,by omega,by go_num,by rw [uq,iJ,HS.out],HR.out ht⟩
      case measure=>simp [intOf];omega
     ·have htf:=Bool.not_eq_true _ ▸ ht
      clear hl
      rcases gF.1 htf with h|h
      ·have hd:decide (t<0)=true:=by simp;omega
       go_wp2_with fail
       go_ret
       exact ⟨_,0,0,rfl,by rw [HF.out htf];exact Own.newAt (by simp) (by omega),aB (ai (aB B1.out _) _) _⟩
      ·have hd:decide (t<0)=false:=by simp;omega
       have hd':decide (t≥(N:Int))=true:=by simp;omega
       go_wp2_with fail
       go_ret
       exact ⟨_,0,0,rfl,by rw [HF.out htf];exact Own.newAt (by simp) (by omega),aB (ai (aB B1.out _) _) _⟩
    ·have hkn:k=n:=by omega
     subst hkn
     go_wp2
     go_ret
     refine ⟨_,_,_,rfl,?_,ai (aB B1.out _) _⟩
     rw [gu,if_pos ⟨HD.out,by rw [HX.out];exact h40,by rw [HX.out,HT.out];exact HALL.out⟩,HX.out,HT.out]
     exact Own.arr (w:=(w1.alloc _).drewN _) (aK _ _) (by omega) (by unfold maxLen;omega) (jf _ _ _ _)
  ·have d40:decide ((n:Int)>40)=true:=by simp;omega
   clear hN
   go_wp2_with fail
   go_ret
   exact ⟨_,0,0,rfl,by rw [gu,if_neg (by simp only [HX.out];omega)];exact Own.new0 (by omega),aB B1.out _⟩
end Go.Proofs.YtignkfhdkcgkgaaGreat
