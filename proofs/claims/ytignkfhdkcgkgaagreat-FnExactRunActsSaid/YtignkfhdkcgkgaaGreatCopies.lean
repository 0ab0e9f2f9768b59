/- Bit operations of int on numbers that are not below 0; plain lemmas. -/
import Derived.Laws.BitsAllLaws
import Derived.Laws.BitsLemmas
import Derived.Test.YtignkfhdkcgkgaaGreatCopy
namespace Go.Proofs.YtignkfhdkcgkgaaGreat
set_option maxHeartbeats 1000000
set_option maxRecDepth 100000
open Go.RowKit
theorem lT (a:Nat) (ha:a<9223372036854775808):(BitVec.ofInt 64 (a:Int)).toNat=a:=by
 rw [BitVec.ofInt_natCast,BitVec.toNat_ofNat];exact Nat.mod_eq_of_lt (by omega)
theorem mZ (a b:Nat) (ha:a<9223372036854775808) (hb:b<9223372036854775808):bits .and .i64 (a:Int) (b:Int)=((a &&& b:Nat):Int):=by
 have hx:a &&& b<2 ^ 63:=Nat.and_lt_two_pow _ (by omega)
 show IntKind.i64.wrap ((BitVec.ofInt 64 (a:Int) &&& BitVec.ofInt 64 (b:Int)).toNat:Int)=_
 rw [BitVec.toNat_and,lT a ha,lT b hb,IntKind.wrap_i64]
 omega
theorem gz (a b:Nat) (ha:a<9223372036854775808) (hb:b<9223372036854775808):bits .or .i64 (a:Int) (b:Int)=((a ||| b:Nat):Int):=by
 have hx:a ||| b<2 ^ 63:=Nat.or_lt_two_pow (by omega) (by omega)
 show IntKind.i64.wrap ((BitVec.ofInt 64 (a:Int) ||| BitVec.ofInt 64 (b:Int)).toNat:Int)=_
 rw [BitVec.toNat_or,lT a ha,lT b hb,IntKind.wrap_i64]
 omega
theorem jW (a b:Nat) (ha:a<9223372036854775808) (hb:b<9223372036854775808):bits .xor .i64 (a:Int) (b:Int)=((a ^^^ b:Nat):Int):=by
 have hx:a ^^^ b<2 ^ 63:=Nat.xor_lt_two_pow (by omega) (by omega)
 show IntKind.i64.wrap ((BitVec.ofInt 64 (a:Int) ^^^ BitVec.ofInt 64 (b:Int)).toNat:Int)=_
 rw [BitVec.toNat_xor,lT a ha,lT b hb,IntKind.wrap_i64]
 omega
theorem GA (a k:Nat) (h:a<2 ^ k):a ||| 2 ^ k=a+2 ^ k:=by
 rw [Nat.or_comm,nat_join k (2 ^ k) a (Nat.mod_self _) h,Nat.add_comm]
theorem jm {k:Nat} (h:k<=62):2 ^ k<9223372036854775808:=Nat.lt_of_le_of_lt (Nat.pow_le_pow_right (by omega) h) (by decide)
theorem DU (a:Int) (k:Nat) (h0:0<=a) (h:a<2 ^ k) (hk:k<=61):bits .or .i64 a (2 ^ k)=a+2 ^ k:=by
 obtain ⟨a,rfl⟩:=Int.eq_ofNat_of_zero_le h0
 have h':a<2 ^ k:=by exact_mod_cast h
 have hp:=jm (show k<=62 by omega)
 have e:((2:Int) ^ k)=((2 ^ k:Nat):Int):=by simp
 rw [e,gz a (2 ^ k) (by omega) hp,GA a k h']
 simp
theorem jo (k:Nat):((2:Int) ^ k)=((2 ^ k:Nat):Int):=by simp
theorem nQ {k:Nat} (h:k<=62):wrap64 (2 ^ k)=2 ^ k:=by
 have hp:=jm h
 rw [jo]
 generalize 2 ^ k=p at *
 exact IntWalk.wrap64_in _ ⟨by omega,by omega⟩
def bO (d:Dev):Bool:=inR d.W 3 6 && (inR d.H 3 6 && (inR d.T 1 4 && (decide (d.R=-1) || inR d.R 1 (d.W - 2))))
def mF (d:Dev) (r:Reg):Bool:=bO d && (decide (0<=r.X0) && (decide (r.X0<=r.X1) && (decide (r.X1<d.W) && (decide (0<=r.Y0) && (decide (r.Y0<=r.Y1) && decide (r.Y1<d.H))))))
theorem aY {d:Dev} (h:bO d=true):3<=d.W/\d.W<=6/\3<=d.H/\d.H<=6/\1<=d.T/\d.T<=4/\-1<=d.R/\d.R<=d.W - 2:=by
 simp only [bO,Bool.and_eq_true,Bool.or_eq_true,ak,decide_eq_true_eq] at h;omega
theorem fB (d:Dev) (w:World) :
  Calls Tryz.prog 113 #[.agg #[.int .i64 d.W,.int .i64 d.H,.int .i64 d.T,.int .i64 d.R]] w fun e w'=>e = .returned (.bool (bO d))/\Below w.heap.size w w':=by
 by_cases hW:inR d.W 3 6=true
 ·have hb:=ak.1 hW
  go_enter Tryz.func113,Tryz.ntmps113
  go_wp2_with (first|(go_at_call 116;refine (aN _ _ _ _).mono ?_;rintro e w' ⟨rfl,rfl⟩))
  all_goals (go_ret;exact ⟨by simp [bO, *],aB (Below.refl _ _) _⟩)
 ·go_enter Tryz.func113,Tryz.ntmps113
  go_wp2_with (first|(go_at_call 116;refine (aN _ _ _ _).mono ?_;rintro e w' ⟨rfl,rfl⟩))
  all_goals (go_ret;exact ⟨by simp [bO, *],aB (Below.refl _ _) _⟩)
theorem dK (d:Dev) (w:World) :
  Calls Tryz.prog 138 #[.agg #[.int .i64 d.W,.int .i64 d.H,.int .i64 d.T,.int .i64 d.R]] w fun e w'=>e = .returned (.bool (bO d))/\Below w.heap.size w w':=by
 by_cases hW:inR d.W 3 6=true
 ·have hb:=ak.1 hW
  go_enter Tryz.func138,Tryz.ntmps138
  go_wp2_with (first|(go_at_call 175;refine (aW _ _ _ _).mono ?_;rintro e w' ⟨rfl,rfl⟩))
  all_goals (go_ret;exact ⟨by simp [bO, *],aB (Below.refl _ _) _⟩)
 ·go_enter Tryz.func138,Tryz.ntmps138
  go_wp2_with (first|(go_at_call 175;refine (aW _ _ _ _).mono ?_;rintro e w' ⟨rfl,rfl⟩))
  all_goals (go_ret;exact ⟨by simp [bO, *],aB (Below.refl _ _) _⟩)
theorem lF (d:Dev) (r:Reg) (w:World) :
  Calls Tryz.prog 42 #[.agg #[.int .i64 d.W,.int .i64 d.H,.int .i64 d.T,.int .i64 d.R],.agg #[.int .i64 r.X0,.int .i64 r.Y0,.int .i64 r.X1,.int .i64 r.Y1]] w fun e w'=>e = .returned (.bool (mF d r))/\Below w.heap.size w w':=by
 go_enter Tryz.func42,Tryz.ntmps42
 go_wp2_with (first|(go_at_call 113;refine (fB d _).mono ?_;rintro e w' ⟨rfl,hb⟩;obtain ⟨hc,hf⟩:=aO hb))
 all_goals (go_ret;exact ⟨aH (by clear hc hf;simp [mF, *] <;> omega),aA (aB (aB (Below.refl _ _) _) _) hb⟩)
theorem qj (d:Dev) (r:Reg) (w:World) :
  Calls Tryz.prog 89 #[.agg #[.int .i64 d.W,.int .i64 d.H,.int .i64 d.T,.int .i64 d.R],.agg #[.int .i64 r.X0,.int .i64 r.Y0,.int .i64 r.X1,.int .i64 r.Y1]] w fun e w'=>e = .returned (.bool (mF d r))/\Below w.heap.size w w':=by
 go_enter Tryz.func89,Tryz.ntmps89
 go_wp2_with (first|(go_at_call 138;refine (dK d _).mono ?_;rintro e w' ⟨rfl,hb⟩;obtain ⟨hc,hf⟩:=aO hb))
 all_goals (go_ret;exact ⟨aH (by clear hc hf;simp [mF, *] <;> omega),aA (aB (aB (Below.refl _ _) _) _) hb⟩)
def mG (N:Nat) (ts:List Int) (b:Int):Nat→List Int
 | 0=>List.replicate N 0
 | k+1=>(mG N ts b k).set (ts[k]?.getD 0).toNat (bits .and .i64 (b / 2 ^ k) 1)
def tiles (d:Dev):Nat:=(d.W * d.H).toNat
def fw (d:Dev) (ts:List Int) (b:Int):List Int :=
 if bO d=true/\ts.length<=40/\∀j,j<ts.length→inR (ts[j]?.getD 0) 0 ((tiles d:Int) - 1)=true then mG (tiles d) ts b ts.length else []
theorem jA (N:Nat) (ts:List Int) (b:Int) (k:Nat):(mG N ts b k).length=N:=by
 induction k with
 | zero=>simp [mG]
 | succ k ih=>simp [mG,ih]
theorem wK (d:Dev) (ts:List Int) (b:Int):(fw d ts b).length<=36:=by
 unfold fw
 split
 ·rename_i h
  rw [jA]
  have h1:=aY h.1
  have h2:=Int.mul_le_mul h1.2.1 h1.2.2.2.1 (by omega) (by omega)
  unfold tiles
  omega
 ·simp
theorem bT {d:Dev} (h:bO d=true):d.W * d.H=(tiles d:Int)/\9<=tiles d/\tiles d<=36:=by
 obtain ⟨h1,h2,h3,h4,_⟩:=aY h
 have a:9<=d.W * d.H:=by
  have:=Int.mul_le_mul h1 h3 (by omega) (by omega)
  omega
 have b:d.W * d.H<=36:=by
  have:=Int.mul_le_mul h2 h4 (by omega) (by omega)
  omega
 unfold tiles
 omega
theorem BV (d:Dev) (A:Option Addr) (n c:Nat) (ts:List Int) (b:Int) (w:World) (hA:bH w A n ts) (hn:n<=16777216) :
  Calls Tryz.prog 82 #[.agg #[.int .i64 d.W,.int .i64 d.H,.int .i64 d.T,.int .i64 d.R],.slice A n c,.int .i64 b] w fun e w'=>∃A' m c',e = .returned (.slice A' m c')/\Own w.heap.size w' A' m c' (fw d ts b)/\Below w.heap.size w w':=by
 have HI:=Hd hA
 have hX:=hA.1
 have HX:=Hd hX
 clear hA hX
 go_enter Tryz.func82,Tryz.ntmps82
 go_wp2_with fail
 refine (fB d _).mono ?_
 rintro e w1 ⟨rfl,b1⟩
 have hs1:=b1.size
 simp only [World.size_alloc] at hs1
 obtain ⟨hcc,hff⟩:=aO b1
 have B1:=Hd (aA (aB (Below.refl _ _) _) b1)
 clear b1
 cases hd:bO d with
 | false =>
  have HD:=Hd hd
  clear hd
  go_wp2_with fail
  go_ret
  exact ⟨none,0,0,rfl,by rw [fw,if_neg (by simp [HD.out])];exact Own.nil,B1.out⟩
 | true =>
  obtain ⟨hN,hN1,hN2⟩:=bT hd
  have HD:=Hd hd
  clear hd
  by_cases h40:n<=40
  ·have d40:decide ((n:Int)>40)=false:=by simp;omega
   obtain ⟨i0,hi,hz0,hz1,hz2⟩:=info_parts eP
   have hmk:=fun W=>bU (P:=Tryz.prog) 27 3 i0 _ Tryz.underlying27 hi hz0 .i64 .i64 (tiles d) (tiles d) (Nat.le_refl _) (by rw [hz2];omega) (by omega) W
   rw [hz1,Nat.mul_one,show (Value.int .i64 0).cells=#[Value.int .i64 0] from rfl,iV] at hmk
   clear hi hz0 hz1 hz2
   go_wp2_with fail
   have hI:=HI.out.below B1.out
   obtain ⟨_,hA⟩:=hI
   generalize hT:tiles d=N at *
   have HT:=Hd hT
   clear hT hN hcc hff hmk
   go_loopw [26] (fun i wr=>∃k:Nat,k<=n/\i = .int .i64 k/\wr=w1.alloc (.cells (arr (mG N ts b k)) 3)/\∀j,j<k→inR (ts[j]?.getD 0) 0 ((N:Int) - 1)=true) (fun i _=>n - (intOf i).toNat)
   case atStart=>exact ⟨0,Nat.zero_le _,rfl,rfl,by intro j hj;omega⟩
   case round =>
    obtain ⟨k,hk,rfl,rfl,hall⟩:=hrel
    have HALL:=Hd hall
    clear hall
    by_cases hlt:k<n
    ·obtain ⟨bb,o,rfl,hb,hc⟩:=hA (by omega)
     have hck:=hc k hlt
     have hs:=mG.eq_2 N ts b k
     have HS:=Hd hs
     have HR:Hid (inR (ts[k]?.getD 0) 0 ((N:Int) - 1)=true→∀j,j<k+1→inR (ts[j]?.getD 0) 0 ((N:Int) - 1)=true):=by
      intro h j hj
      rcases Nat.lt_or_ge j k with h1|h1
      ·exact HALL.out j h1
      ·obtain rfl:j=k:=by omega
       exact h
     have HF:Hid (inR (ts[k]?.getD 0) 0 ((N:Int) - 1)=false→fw d ts b=[]):=by
      intro h
      rw [fw,if_neg]
      rintro ⟨_,_,h3⟩
      have:=h3 k (by rw [HX.out];exact hlt)
      rw [HT.out,h] at this
      cases this
     clear hc hs
     have hl:=jA N ts b k
     have HL:=Hd hl
     generalize mG N ts b k=ps at *
     generalize ts[k]?.getD 0=t at *
     by_cases ht:inR t 0 ((N:Int) - 1)=true
     ·have htb:=ak.1 ht
      have hlt':t.toNat<ps.length:=by omega
      have hg:=fC hlt'
      have hz:t.toNat<(arr ps).size:=by rw [Bq];exact hlt'
      have hi0:(0:Int)<=(k:Int):=by omega
      have hi1:(k:Int)<=63:=by omega
      clear hl
      go_wp2_with (go_at_call 116;refine (aN _ _ _ _).mono ?_;rintro e w' ⟨rfl,rfl⟩)
      go_roundw
      case rel=>exact ⟨k+1,by omega,by go_num,by rw [iA,HS.out],HR.out ht⟩
      case measure=>simp [intOf];omega
     ·have htf:=Bool.not_eq_true _ ▸ ht
      clear hl
      go_wp2_with (go_at_call 116;refine (aN _ _ _ _).mono ?_;rintro e w' ⟨rfl,rfl⟩)
      go_ret
      exact ⟨none,0,0,rfl,by rw [HF.out htf];exact Own.nil,aB B1.out _⟩
    ·have hkn:k=n:=by omega
     subst hkn
     go_wp2
     go_ret
     refine ⟨_,_,_,rfl,?_,aB B1.out _⟩
     rw [fw,if_pos ⟨HD.out,by rw [HX.out];exact h40,by rw [HX.out,HT.out];exact HALL.out⟩,HX.out,HT.out]
     exact Own.arr (aL _ _) (by omega) (by unfold maxLen;omega) (jA _ _ _ _)
  ·have d40:decide ((n:Int)>40)=true:=by simp;omega
   clear hN
   go_wp2_with fail
   go_ret
   exact ⟨none,0,0,rfl,by rw [fw,if_neg (by simp only [HX.out];omega)];exact Own.nil,B1.out⟩
theorem zK (d:Dev) (A:Option Addr) (n c:Nat) (ts:List Int) (b:Int) (w:World) (hA:bH w A n ts) (hn:n<=16777216) :
  Calls Tryz.prog 124 #[.agg #[.int .i64 d.W,.int .i64 d.H,.int .i64 d.T,.int .i64 d.R],.slice A n c,.int .i64 b] w fun e w'=>∃A' m c',e = .returned (.slice A' m c')/\Own w.heap.size w' A' m c' (fw d ts b)/\Below w.heap.size w w':=by
 have HI:=Hd hA
 have hX:=hA.1
 have HX:=Hd hX
 clear hA hX
 go_enter Tryz.func124,Tryz.ntmps124
 go_wp2_with fail
 refine (dK d _).mono ?_
 rintro e w1 ⟨rfl,b1⟩
 have hs1:=b1.size
 simp only [World.size_alloc] at hs1
 obtain ⟨hcc,hff⟩:=aO b1
 have B1:=Hd (aA (aB (Below.refl _ _) _) b1)
 clear b1
 cases hd:bO d with
 | false =>
  have HD:=Hd hd
  clear hd
  go_wp2_with fail
  go_ret
  exact ⟨_,0,0,rfl,by rw [fw,if_neg (by simp [HD.out])];exact Own.new0 (by omega),aB B1.out _⟩
 | true =>
  obtain ⟨hN,hN1,hN2⟩:=bT hd
  have HD:=Hd hd
  clear hd
  by_cases h40:n<=40
  ·have d40:decide ((n:Int)>40)=false:=by simp;omega
   obtain ⟨i0,hi,hz0,hz1,hz2⟩:=info_parts eP
   have hmk:=fun W=>bU (P:=Tryz.prog) 27 3 i0 _ Tryz.underlying27 hi hz0 .i64 .i64 (tiles d) (tiles d) (Nat.le_refl _) (by rw [hz2];omega) (by omega) W
   rw [hz1,Nat.mul_one,show (Value.int .i64 0).cells=#[Value.int .i64 0] from rfl,iV] at hmk
   clear hi hz0 hz1 hz2
   go_wp2_with fail
   have hI:=HI.out.below B1.out
   obtain ⟨_,hA⟩:=hI
   generalize hT:tiles d=N at *
   have HT:=Hd hT
   clear hT hN hcc hff hmk
   go_loopw [8] (fun i wr=>∃k nq:Nat,k<=n/\i = .int .i64 k/\wr=(w1.alloc (.cells (arr (mG N ts b k)) 3)).drewN nq/\∀j,j<k→inR (ts[j]?.getD 0) 0 ((N:Int) - 1)=true) (fun i _=>n - (intOf i).toNat)
   case atStart=>exact ⟨0,0,Nat.zero_le _,rfl,rfl,by intro j hj;omega⟩
   case round =>
    obtain ⟨k,nq,hk,rfl,rfl,hall⟩:=hrel
    have HALL:=Hd hall
    clear hall
    by_cases hlt:k<n
    ·obtain ⟨bb,o,rfl,hb,hc⟩:=hA (by omega)
     have hck:=hc k hlt
     have hs:=mG.eq_2 N ts b k
     have HS:=Hd hs
     have HR:Hid (inR (ts[k]?.getD 0) 0 ((N:Int) - 1)=true→∀j,j<k+1→inR (ts[j]?.getD 0) 0 ((N:Int) - 1)=true):=by
      intro h j hj
      rcases Nat.lt_or_ge j k with h1|h1
      ·exact HALL.out j h1
      ·obtain rfl:j=k:=by omega
       exact h
     have HF:Hid (inR (ts[k]?.getD 0) 0 ((N:Int) - 1)=false→fw d ts b=[]):=by
      intro h
      rw [fw,if_neg]
      rintro ⟨_,_,h3⟩
      have:=h3 k (by rw [HX.out];exact hlt)
      rw [HT.out,h] at this
      cases this
     clear hc hs
     have hl:=jA N ts b k
     have HL:=Hd hl
     generalize mG N ts b k=ps at *
     generalize ts[k]?.getD 0=t at *
     by_cases ht:inR t 0 ((N:Int) - 1)=true
     ·have htb:=ak.1 ht
      have hlt':t.toNat<ps.length:=by omega
      have hg:=fC hlt'
      have hz:t.toNat<(arr ps).size:=by rw [Bq];exact hlt'
      have hi0:(0:Int)<=(k:Int):=by omega
      have hi1:(k:Int)<=63:=by omega
      clear hl
      go_wp2_with fail
      go_region
      go_wp2_with fail
      go_roundw
      case rel=>exact ⟨k+1,_,by omega,by go_num,by rw [tN,iA,HS.out],HR.out ht⟩
      case measure=>simp [intOf];omega
     ·have htf:=Bool.not_eq_true _ ▸ ht
      clear hl
      rcases fT.1 htf with h|h
      ·have hd:decide (t<0)=true:=by simp;omega
       go_wp2_with fail
       go_ret
       exact ⟨_,0,0,rfl,by rw [HF.out htf];exact Own.newAt (by simp) (by omega),aB (aZ (aB B1.out _) _) _⟩
      ·have hd:decide (t<0)=false:=by simp;omega
       have hd':decide (t≥(N:Int))=true:=by simp;omega
       go_wp2_with fail
       go_ret
       exact ⟨_,0,0,rfl,by rw [HF.out htf];exact Own.newAt (by simp) (by omega),aB (aZ (aB B1.out _) _) _⟩
    ·have hkn:k=n:=by omega
     subst hkn
     go_wp2
     go_ret
     refine ⟨_,_,_,rfl,?_,aZ (aB B1.out _) _⟩
     rw [fw,if_pos ⟨HD.out,by rw [HX.out];exact h40,by rw [HX.out,HT.out];exact HALL.out⟩,HX.out,HT.out]
     exact Own.arr (w:=(w1.alloc _).drewN _) (aL _ _) (by omega) (by unfold maxLen;omega) (jA _ _ _ _)
  ·have d40:decide ((n:Int)>40)=true:=by simp;omega
   clear hN
   go_wp2_with fail
   go_ret
   exact ⟨_,0,0,rfl,by rw [fw,if_neg (by simp only [HX.out];omega)];exact Own.new0 (by omega),aB B1.out _⟩
def fwI (d:Dev):Int:=(5 * (5+4 * d.T)+67+15) / 16
def kT (ws:List Int) (most:Int):Bool:=(List.range ws.length).all fun i=>inR (ws[i]?.getD 0) 0 most
theorem uM {ws:List Int} {most:Int} {k:Nat} (hk:k<ws.length) (h:inR (ws[k]?.getD 0) 0 most=false):kT ws most=false:=by
 cases hs:kT ws most with
 | false=>rfl
 | true =>
  simp only [kT,List.all_eq_true,List.mem_range] at hs
  rw [hs k hk] at h
  cases h
theorem mH {ws:List Int} {most:Int} (h:∀j,j<ws.length→inR (ws[j]?.getD 0) 0 most=true):kT ws most=true:=by
 simp only [kT,List.all_eq_true,List.mem_range]
 exact h
theorem nR {ws:List Int} {most:Int} (h:kT ws most=true) {k:Nat} (hk:k<ws.length):0<=ws[k]?.getD 0/\ws[k]?.getD 0<=most:=by
 simp only [kT,List.all_eq_true,List.mem_range] at h
 exact ak.1 (h k hk)
def bN (ws:List Int) (count most:Int):Bool:=decide ((ws.length:Int)=count) && kT ws most
def az (d:Dev) (fs:List (List Int)):Bool:=bO d && (decide (fs.length=tiles d) && (List.range fs.length).all fun j=>bN (fs[j]?.getD []) (fwI d) 4194303)
theorem tK {d:Dev} {fs:List (List Int)} {k:Nat} (hk:k<fs.length) (h:bN (fs[k]?.getD []) (fwI d) 4194303=false):az d fs=false:=by
 cases hs:az d fs with
 | false=>rfl
 | true =>
  simp only [az,Bool.and_eq_true,List.all_eq_true,List.mem_range] at hs
  rw [hs.2.2 k hk] at h
  cases h
theorem ql {d:Dev} {fs:List (List Int)} (hd:bO d=true) (hl:fs.length=tiles d) (h:∀j,j<fs.length→bN (fs[j]?.getD []) (fwI d) 4194303=true):az d fs=true:=by
 simp only [az,Bool.and_eq_true,List.all_eq_true,List.mem_range,decide_eq_true_eq]
 exact ⟨hd,hl,h⟩
theorem aj {d:Dev} {fs:List (List Int)} (h:az d fs=true):bO d=true/\fs.length=tiles d/\∀j,j<fs.length→bN (fs[j]?.getD []) (fwI d) 4194303=true:=by
 simp only [az,Bool.and_eq_true,List.all_eq_true,List.mem_range,decide_eq_true_eq] at h
 exact ⟨h.1,h.2.1,h.2.2⟩
theorem jq {d:Dev} (h:bO d=true):7<=fwI d/\fwI d<=11:=by
 have:=aY h
 unfold fwI
 omega
theorem tL (d:Dev) (w:World) (h1:1<=d.T) (h2:d.T<=4) :
  Calls Tryz.prog 174 #[.agg #[.int .i64 d.W,.int .i64 d.H,.int .i64 d.T,.int .i64 d.R]] w fun e w'=>e = .returned (.int .i64 (5+4 * d.T))/\Below w.heap.size w w':=by
 go_enter Tryz.func174,Tryz.ntmps174
 go_wp2_with fail
 go_ret
 exact ⟨rfl,aB (Below.refl _ _) _⟩
theorem iT (d:Dev) (w:World) (h1:1<=d.T) (h2:d.T<=4) :
  Calls Tryz.prog 115 #[.agg #[.int .i64 d.W,.int .i64 d.H,.int .i64 d.T,.int .i64 d.R]] w fun e w'=>e = .returned (.int .i64 (fwI d))/\Below w.heap.size w w':=by
 unfold fwI
 go_enter Tryz.func115,Tryz.ntmps115
 go_wp2_with fail
 refine (tL d _ h1 h2).mono ?_
 rintro e w1 ⟨rfl,b1⟩
 go_wp2_with fail
 go_ret
 exact ⟨rfl,aA (aB (Below.refl _ _) _) b1⟩
theorem qo (d:Dev) (w:World) (hd:bO d=true) :
  Calls Tryz.prog 207 #[.agg #[.int .i64 d.W,.int .i64 d.H,.int .i64 d.T,.int .i64 d.R]] w fun e w'=>e = .returned (.int .i64 (5+4 * d.T))/\Below w.heap.size w w':=by
 have hb:=aY hd
 go_enter Tryz.func207,Tryz.ntmps207
 go_wp2_with fail
 refine (dK d _).mono ?_
 rintro e w1 ⟨rfl,b1⟩
 obtain ⟨hcc,hff⟩:=aO b1
 go_wp2_with fail
 go_ret
 exact ⟨rfl,aA (aB (Below.refl _ _) _) b1⟩
theorem ko (d:Dev) (w:World) (hd:bO d=true) :
  Calls Tryz.prog 160 #[.agg #[.int .i64 d.W,.int .i64 d.H,.int .i64 d.T,.int .i64 d.R]] w fun e w'=>e = .returned (.int .i64 (fwI d))/\Below w.heap.size w w':=by
 unfold fwI
 have hb:=aY hd
 go_enter Tryz.func160,Tryz.ntmps160
 go_wp2_with fail
 refine (dK d _).mono ?_
 rintro e w1 ⟨rfl,b1⟩
 obtain ⟨hcc,hff⟩:=aO b1
 go_wp2_with fail
 refine (qo d _ hd).mono ?_
 rintro e w2 ⟨rfl,b2⟩
 go_wp2_with fail
 go_ret
 exact ⟨rfl,aA (aA (aB (Below.refl _ _) _) b1) b2⟩
theorem mf (A:Option Addr) (n c:Nat) (ws:List Int) (count most:Int) (w:World) (h:bH w A n ws) (hn:n<=1099511627776) :
  Calls Tryz.prog 114 #[.slice A n c,.int .i64 count,.int .i64 most] w fun e w'=>e = .returned (.bool (bN ws count most))/\Below w.heap.size w w':=by
 obtain ⟨hx,hA⟩:=h
 have HX:=Hd hx
 clear hx
 by_cases hnc:(n:Int)=count
 ·have hd:((n:Int) != count)=false:=by simp [hnc]
  have HN:=Hd hnc
  clear hnc
  go_enter Tryz.func114,Tryz.ntmps114
  go_wp2_with fail
  go_loop [15] (fun i=>∃k:Nat,k<=n/\i = .int .i64 k/\∀j,j<k→inR (ws[j]?.getD 0) 0 most=true) (fun i=>n - (intOf i).toNat)
  case atStart=>exact ⟨0,Nat.zero_le _,rfl,by intro j hj;omega⟩
  case round =>
   obtain ⟨k,hk,rfl,hall⟩:=hrel
   have HALL:=Hd hall
   clear hall
   by_cases hlt:k<n
   ·obtain ⟨b,o,rfl,hb,hc⟩:=hA (by omega)
    have hck:=hc k hlt
    clear hc
    have HB:Hid (inR (ws[k]?.getD 0) 0 most=false→kT ws most=false):=fun h=>uM (by rw [HX.out];exact hlt) h
    have HG:Hid (inR (ws[k]?.getD 0) 0 most=true→∀j,j<k+1→inR (ws[j]?.getD 0) 0 most=true):=fun h=>gF HALL.out h
    generalize ws[k]?.getD 0=x at *
    cases hin:inR x 0 most with
    | true =>
     have HG':=Hd (HG.out hin)
     clear HG HB
     go_wp2_with (go_at_call 116;refine (aN _ _ _ _).mono ?_;rintro e w' ⟨rfl,rfl⟩)
     go_round
     case rel=>exact ⟨k+1,by omega,by go_num,HG'.out⟩
     case measure=>simp [intOf];omega
    | false =>
     have HB':=Hd (HB.out hin)
     clear HG HB
     go_wp2_with (go_at_call 116;refine (aN _ _ _ _).mono ?_;rintro e w' ⟨rfl,rfl⟩)
     go_ret
     exact ⟨aH (by simp [bN,HB'.out]),Below.refl _ _⟩
   ·have hkn:k=n:=by omega
    subst hkn
    go_wp2
    go_ret
    exact ⟨aH (by rw [bN,mH (by rw [HX.out];exact HALL.out),HX.out];simp [HN.out]),Below.refl _ _⟩
 ·have hd:((n:Int) != count)=true:=by simp [hnc]
  go_enter Tryz.func114,Tryz.ntmps114
  go_wp2_with fail
  go_ret
  exact ⟨aH (by simp [bN,HX.out,hnc]),Below.refl _ _⟩
theorem gB (d:Dev) (A:Option Addr) (n c:Nat) (fs:List (List Int)) (w:World) (hA:dZ w A n fs) (hz:af fs<=1099511627776) :
  Calls Tryz.prog 40 #[.agg #[.int .i64 d.W,.int .i64 d.H,.int .i64 d.T,.int .i64 d.R],.slice A n c] w fun e w'=>e = .returned (.bool (az d fs))/\Below w.heap.size w w':=by
 have hB0:Below w.heap.size w (w.alloc (.cells #[.int .i64 d.W,.int .i64 d.H,.int .i64 d.T,.int .i64 d.R] 25)):=aB (Below.refl _ _) _
 have HI:=Hd hA
 have hX:=hA.1
 obtain ⟨hn,hrow⟩:=dz hX hz
 have HX:=Hd hX
 have HR:=Hd hrow
 clear hA hX hrow
 go_enter Tryz.func40,Tryz.ntmps40
 go_wp2_with fail
 refine (fB d _).mono ?_
 rintro e w1 ⟨rfl,b1⟩
 have hs1:=b1.size
 simp only [World.size_alloc] at hs1
 obtain ⟨hcc,hff⟩:=aO b1
 have B1:=Hd b1
 clear b1
 cases hd:bO d with
 | false =>
  have HD:=Hd hd
  clear hd
  go_wp2_with fail
  go_ret
  exact ⟨aH (by simp [az,HD.out]),aA hB0 B1.out⟩
 | true =>
  obtain ⟨hN,hN1,hN2⟩:=bT hd
  obtain ⟨hw1,hw2,hh1,hh2,ht1,ht2,_⟩:=aY hd
  have HD:=Hd hd
  clear hd
  by_cases hlen:n=tiles d
  ·subst hlen
   obtain ⟨hx1,hA⟩:=HI.out.below (aA hB0 B1.out)
   clear hx1 HI
   generalize hT:tiles d=N at *
   have HT:=Hd hT
   have HN:=Hd hN
   clear hT
   go_wp2_with fail
   clear hN
   go_loopw [22] (fun i wr=>∃k:Nat,k<=N/\i = .int .i64 k/\Below w1.heap.size w1 wr/\∀j,j<k→bN (fs[j]?.getD []) (fwI d) 4194303=true) (fun i _=>N - (intOf i).toNat)
   case atStart=>exact ⟨0,Nat.zero_le _,rfl,Below.refl _ _,by intro j hj;omega⟩
   case round =>
    obtain ⟨k,hk,rfl,hbe,hall⟩:=hrel
    clear hcc hff
    obtain ⟨hcc,hff⟩:=aO (aA B1.out hbe)
    have HE:=Hd hbe
    have HALL:=Hd hall
    clear hall
    by_cases hlt:k<N
    ·obtain ⟨b,o,rfl,hb,hc⟩:=hA (by omega)
     obtain ⟨A1,m1,c1,hck,hI1⟩:=hc k hlt
     rw [←hbe.cell (p:=⟨b,o+k,none⟩) hb] at hck
     have J1:=Hd (hI1.below hbe)
     have hm1:m1<=1099511627776:=by have:=HR.out k;have:=hI1.1;omega
     have HBD:Hid (bN (fs[k]?.getD []) (fwI d) 4194303=false→az d fs=false):=fun h=>tK (by rw [HX.out];exact hlt) h
     have HG:Hid (bN (fs[k]?.getD []) (fwI d) 4194303=true→∀j,j<k+1→bN (fs[j]?.getD []) (fwI d) 4194303=true):=fun h=>gF HALL.out h
     clear hc hI1 hbe
     generalize fs[k]?.getD []=f at *
     go_wp2_with fail
     refine (iT d _ ht1 ht2).mono ?_
     rintro e w2 ⟨rfl,b2⟩
     have J2:=Hd (J1.out.below b2)
     have E2:=Hd (aA HE.out b2)
     clear b2
     go_wp2_with fail
     refine (mf A1 m1 c1 f _ _ _ J2.out hm1).mono ?_
     rintro e w3 ⟨rfl,b3⟩
     have E3:=Hd (aA E2.out b3)
     clear b3 hck hcc hff
     obtain ⟨hcc,hff⟩:=aO (aA B1.out E3.out)
     cases hin:bN f (fwI d) 4194303 with
     | true =>
      have HG':=Hd (HG.out hin)
      clear HG HBD hin
      go_wp2_with fail
      go_roundw
      case rel=>exact ⟨k+1,by omega,by go_num,E3.out,HG'.out⟩
      case measure=>simp [intOf];omega
     | false =>
      have HB':=Hd (HBD.out hin)
      clear HG HBD hin
      go_wp2_with fail
      go_ret
      exact ⟨aH (by rw [HB'.out]),aA hB0 (aA B1.out E3.out)⟩
    ·have hkn:k=N:=by omega
     subst hkn
     go_wp2
     go_ret
     exact ⟨aH (by rw [ql HD.out (by rw [HX.out,HT.out]) (by rw [HX.out];exact HALL.out)]),aA hB0 (aA B1.out HE.out)⟩
  ·have hd1:((n:Int) != (tiles d:Int))=true:=by simp;omega
   go_wp2_with fail
   go_ret
   exact ⟨aH (by have:=HX.out;simp [az,HD.out];omega),aA hB0 B1.out⟩
theorem iK (d:Dev) (A:Option Addr) (n c:Nat) (fs:List (List Int)) (w:World) (hA:dZ w A n fs) (hz:af fs<=1099511627776) :
  Calls Tryz.prog 120 #[.agg #[.int .i64 d.W,.int .i64 d.H,.int .i64 d.T,.int .i64 d.R],.slice A n c] w fun e w'=>e = .returned (.bool (az d fs))/\Below w.heap.size w w':=by
 have hB0:Below w.heap.size w (w.alloc (.cells #[.int .i64 d.W,.int .i64 d.H,.int .i64 d.T,.int .i64 d.R] 25)):=aB (Below.refl _ _) _
 have HI:=Hd hA
 have hX:=hA.1
 obtain ⟨hn,hrow⟩:=dz hX hz
 have HX:=Hd hX
 have HR:=Hd hrow
 clear hA hX hrow
 go_enter Tryz.func120,Tryz.ntmps120
 go_wp2_with fail
 refine (dK d _).mono ?_
 rintro e w1 ⟨rfl,b1⟩
 have hs1:=b1.size
 simp only [World.size_alloc] at hs1
 obtain ⟨hcc,hff⟩:=aO b1
 have B1:=Hd b1
 clear b1
 cases hd:bO d with
 | false =>
  have HD:=Hd hd
  clear hd
  go_wp2_with fail
  go_ret
  exact ⟨aH (by simp [az,HD.out]),aA hB0 B1.out⟩
 | true =>
  obtain ⟨hN,hN1,hN2⟩:=bT hd
  obtain ⟨hw1,hw2,hh1,hh2,ht1,ht2,_⟩:=aY hd
  have HD:=Hd hd
  clear hd
  by_cases hlen:n=tiles d
  ·subst hlen
   obtain ⟨hx1,hA⟩:=HI.out.below (aA hB0 B1.out)
   clear hx1 HI
   generalize hT:tiles d=N at *
   have HT:=Hd hT
   have HN:=Hd hN
   clear hT
   go_wp2_with fail
   clear hN
   refine (ko d _ HD.out).mono ?_
   rintro e w2 ⟨rfl,b2⟩
   have hfb:=jq HD.out
   obtain ⟨F,hF⟩:∃F:Nat,fwI d=(F:Int):=⟨(fwI d).toNat,by omega⟩
   rw [hF] at hfb
   have E2:=Hd (aA B1.out b2)
   have hA2:Hid (∀w3,Below w2.heap.size w2 w3→dZ w3 A N fs):=fun w3 h3=>dZ.below (w:=w1) ⟨HX.out,hA⟩ (aA b2 h3)
   clear hcc hff b2 hA
   rw [hF]
   have HF:=Hd hF
   clear hF
   go_wp2_with fail
   go_loopw [6] (fun i wr=>∃k nq:Nat,k<=N/\i = .int .i64 k/\wr=w2.drewN nq/\∀j,j<k→bN (fs[j]?.getD []) (fwI d) 4194303=true) (fun i _=>N - (intOf i).toNat)
   case atStart=>exact ⟨0,0,Nat.zero_le _,rfl,rfl,by intro j hj;omega⟩
   case round =>
    obtain ⟨k,nq,hk,rfl,rfl,hall⟩:=hrel
    have HALL:=Hd hall
    clear hall
    by_cases hlt:k<N
    ·obtain ⟨_,hA⟩:=hA2.out w2 (Below.refl _ _)
     obtain ⟨b,o,rfl,hb,hc⟩:=hA (by omega)
     obtain ⟨A1,m1,c1,hck,hI1⟩:=hc k hlt
     have hm1:m1<=1099511627776:=by have:=HR.out k;have:=hI1.1;omega
     have HM1:=Hd hI1.1
     have hA1:=hI1.2
     have HBD:Hid (bN (fs[k]?.getD []) (fwI d) 4194303=false→az d fs=false):=fun h=>tK (by rw [HX.out];exact hlt) h
     have HG:Hid (bN (fs[k]?.getD []) (fwI d) 4194303=true→∀j,j<k+1→bN (fs[j]?.getD []) (fwI d) 4194303=true):=fun h=>gF HALL.out h
     clear hc hI1 hA hA2
     generalize fs[k]?.getD []=f at *
     by_cases hmF:m1=F
     ·subst hmF
      go_wp2_with fail
      go_loopw [7] (fun i wr=>∃j mq:Nat,j<=m1/\i = .int .i64 j/\wr=w2.drewN mq/\∀q,q<j→inR (f[q]?.getD 0) 0 4194303=true) (fun i _=>m1 - (intOf i).toNat)
      case atStart=>exact ⟨0,nq,Nat.zero_le _,rfl,rfl,by intro j hj;omega⟩
      case round =>
       obtain ⟨j,mq,hj,rfl,rfl,hall2⟩:=hrel
       have HALL2:=Hd hall2
       clear hall2
       by_cases hlj:j<m1
       ·obtain ⟨b2,o2,rfl,hb2,hc2⟩:=hA1 (by omega)
        have hcj:=hc2 j hlj
        have HX2:Hid (inR (f[j]?.getD 0) 0 4194303=false→bN f (fwI d) 4194303=false):=fun h=>by
         rw [bN,uM (by rw [HM1.out];exact hlj) h];simp
        have HY2:Hid (inR (f[j]?.getD 0) 0 4194303=true→∀q,q<j+1→inR (f[q]?.getD 0) 0 4194303=true):=fun h=>gF HALL2.out h
        clear hc2
        generalize f[j]?.getD 0=x at *
        cases hin:inR x 0 4194303 with
        | true =>
         have HY':=Hd (HY2.out hin)
         clear HX2 HY2
         go_wp2_with (go_at_call 175;refine (aW _ _ _ _).mono ?_;rintro e w' ⟨rfl,rfl⟩)
         go_roundw
         case rel=>exact ⟨j+1,_,by omega,by go_num,rfl,HY'.out⟩
         case measure=>simp [intOf];omega
        | false =>
         have HX':=Hd (HBD.out (HX2.out hin))
         clear HX2 HY2
         go_wp2_with (go_at_call 175;refine (aW _ _ _ _).mono ?_;rintro e w' ⟨rfl,rfl⟩)
         go_ret
         exact ⟨aH (by rw [HX'.out]),aZ (aA hB0 E2.out) _⟩
       ·have hjm:j=m1:=by omega
        subst hjm
        have HG':=Hd (HG.out (by rw [bN,HM1.out,HF.out,mH (by rw [HM1.out];exact HALL2.out)];simp))
        clear HG HBD
        go_wp2_with fail
        go_roundw
        case rel=>exact ⟨k+1,_,by omega,by go_num,rfl,HG'.out⟩
        case measure=>simp [intOf];omega
     ·have hd2:((m1:Int) != (F:Int))=true:=by simp;omega
      have HB':=Hd (HBD.out (by rw [bN,HM1.out,HF.out];simp;omega))
      clear HG HBD
      go_wp2_with fail
      go_ret
      exact ⟨aH (by rw [HB'.out]),aZ (aA hB0 E2.out) _⟩
    ·have hkn:k=N:=by omega
     subst hkn
     go_wp2
     go_ret
     exact ⟨aH (by rw [ql HD.out (by rw [HX.out,HT.out]) (by rw [HX.out];exact HALL.out)]),aZ (aA hB0 E2.out) _⟩
  ·have hd1:((n:Int) != (tiles d:Int))=true:=by simp;omega
   go_wp2_with fail
   go_ret
   exact ⟨aH (by have:=HX.out;simp [az,HD.out];omega),aA hB0 B1.out⟩
theorem lG (B:Option Addr) (m d:Nat) (ys:List Int) (w:World) (h:bH w B m ys) (hm:m<=1099511627776) :
  Calls Tryz.prog 102 #[.slice B m d] w fun e w'=>∃A c,e = .returned (.slice A m c)/\Own w.heap.size w' A m c ys/\Below w.heap.size w w':=by
 have HI:=Hd h
 clear h
 go_enter Tryz.func102,Tryz.ntmps102
 go_wp2_with (at_builtin;refine bP rfl _ _ rfl w.heap.size (some ⟨w.heap.size,0,none⟩) 0 0 [] rfl (Own.newAt (w:=w) rfl (Nat.le_refl _)) B m d ys rfl (HI.out.below (aB (Below.refl _ _) _)) (by omega) (by simp) (aB (Below.refl _ _) _) ?_;rintro A' c' w1 o1 b1 g1)
 have e0:0+m=m:=Nat.zero_add _
 go_ret
 exact ⟨A',c',by simp,by simpa using o1,b1⟩
theorem jB (A:Option Addr) (n c:Nat) (xss:List (List Int)) (w:World) (h:dZ w A n xss) (hz:af xss<=1099511627776) :
  Calls Tryz.prog 101 #[.slice A n c] w fun e w'=>∃A' c',e = .returned (.slice A' n c')/\bq w.heap.size w'.heap.size w' A' n c' xss/\Below w.heap.size w w':=by
 obtain ⟨hn,hrow⟩:=dz h.1 hz
 obtain ⟨hx,hA⟩:=h
 have HX:=Hd hx
 have HR:=Hd hrow
 clear hx hrow
 go_enter Tryz.func101,Tryz.ntmps101
 go_wp2_with fail
 go_loopw [3,8] (fun v i wr=>∃(k:Nat) (A':Option Addr) (c':Nat),k<=n/\i = .int .i64 k/\v = .slice A' k c'/\bq w.heap.size wr.heap.size wr A' k c' (xss.take k)/\Below w.heap.size w wr) (fun _ i _=>n - (intOf i).toNat)
 case atStart=>exact ⟨0,none,0,Nat.zero_le _,rfl,rfl,by simpa using bq.nil,Below.refl _ _⟩
 case round =>
  obtain ⟨k,A',c',hk,rfl,rfl,ho,hbe⟩:=hrel
  have HO:=Hd ho
  have HE:=Hd hbe
  clear ho
  by_cases hlt:k<n
  ·obtain ⟨b,o,rfl,hb,hc⟩:=hA (by omega)
   obtain ⟨A1,m1,c1,hck,hI1⟩:=hc k hlt
   rw [←hbe.cell (p:=⟨b,o+k,none⟩) hb] at hck
   have J1:=Hd (hI1.below hbe)
   have hm1:m1<=1099511627776:=by have:=HR.out k;have:=hI1.1;omega
   have hsw:=hbe.size
   clear hc hI1 hbe
   go_wp2_with fail
   refine (lG A1 m1 c1 _ _ J1.out hm1).mono ?_
   rintro e w2 ⟨A2,c2,rfl,o2,b2⟩
   have hs2:=b2.size
   have O2:=Hd o2
   have B2:=Hd b2
   clear o2 b2
   go_wp2_with (at_builtin;refine oM rfl _ _ rfl w.heap.size wr.heap.size A' k c' (xss.take k) wr.heap.size A2 m1 c2 _ rfl (HO.out.below B2.out) O2.out rfl (by omega) (Nat.le_refl _) (by omega) (by omega) (by omega) (aA HE.out B2.out) ?_;rintro g cap w3 o3 b3)
   go_roundw
   case rel=>exact ⟨k+1,_,_,by omega,by go_num,rfl,by rw [nG (by rw [HX.out];exact hlt)];exact o3,b3⟩
   case measure=>simp [intOf];omega
  ·have hkn:k=n:=by omega
   subst hkn
   go_wp2_with fail
   go_ret
   exact ⟨_,_,rfl,by have:=HO.out;rwa [List.take_of_length_le (by rw [HX.out];exact Nat.le_refl _)] at this,HE.out⟩
theorem bq.widen {lo hi lo' hi':Nat} {w:World} {A:Option Addr} {n c:Nat} {xss:List (List Int)} (h:bq lo hi w A n c xss) (h1:lo'<=lo) (h2:hi<=hi'):bq lo' hi' w A n c xss:=by
 obtain ⟨vs,k1,k2,k3⟩:=h
 refine ⟨vs,⟨k1.1,?_⟩,fun a ha=>Nat.lt_of_lt_of_le (k2 a ha) h2,(k3.widen h2).lower h1⟩
 rcases k1.2 with h0|⟨g,cap,cur,hv,hg,r⟩
 ·exact .inl h0
 ·exact .inr ⟨g,cap,cur,hv,Nat.le_trans h1 hg,r⟩
theorem bq.new0 {w:World} {g:Nat} (hg:w.heap.size=g):bq g (w.alloc (.cells #[] 27)).heap.size (w.alloc (.cells #[] 27)) (some ⟨g,0,none⟩) 0 0 []:=by
 subst hg
 exact ⟨[],⟨rfl,.inr ⟨w.heap.size,0,#[],rfl,Nat.le_refl _,aL _ _,Nat.le_refl _,Nat.zero_le _,rfl,rfl⟩⟩,by rintro a ⟨⟩;simp,fM.nil⟩
theorem mg (A:Option Addr) (n c:Nat) (xss:List (List Int)) (w:World) (h:dZ w A n xss) (hz:af xss<=1099511627776) :
  Calls Tryz.prog 119 #[.slice A n c] w fun e w'=>∃A' c',e = .returned (.slice A' n c')/\bq w.heap.size w'.heap.size w' A' n c' xss/\Below w.heap.size w w':=by
 obtain ⟨hn,hrow⟩:=dz h.1 hz
 obtain ⟨hx,hA⟩:=h
 have HX:=Hd hx
 have HR:=Hd hrow
 clear hx hrow
 go_enter Tryz.func119,Tryz.ntmps119
 go_wp2_with fail
 go_loopw [3,4] (fun v i wr=>∃(k:Nat) (A':Option Addr) (c':Nat),k<=n/\i = .int .i64 k/\v = .slice A' k c'/\bq w.heap.size wr.heap.size wr A' k c' (xss.take k)/\Below w.heap.size w wr) (fun _ i _=>n - (intOf i).toNat)
 case atStart=>exact ⟨0,_,0,Nat.zero_le _,rfl,rfl,by simpa using bq.new0 rfl,aB (Below.refl _ _) _⟩
 case round =>
  obtain ⟨k,A',c',hk,rfl,rfl,ho,hbe⟩:=hrel
  have HO:=Hd ho
  have HE:=Hd hbe
  clear ho
  by_cases hlt:k<n
  ·obtain ⟨b,o,rfl,hb,hc⟩:=hA (by omega)
   obtain ⟨A1,m1,c1,hck,hI1⟩:=hc k hlt
   rw [←hbe.cell (p:=⟨b,o+k,none⟩) hb] at hck
   have J1:=Hd (hI1.below hbe)
   have hm1:m1<=1099511627776:=by have:=HR.out k;have:=hI1.1;omega
   have hsw:=hbe.size
   have hbw:b<wr.heap.size:=by omega
   clear hc hI1 hbe
   go_wp2_with (first
    | (at_builtin;refine bP rfl (.tmp 13) (.tmp 17) rfl wr.heap.size (some ⟨wr.heap.size,0,none⟩) 0 0 [] rfl (Own.newAt (w:=wr) rfl (Nat.le_refl _)) A1 m1 c1 _ rfl (J1.out.below (aB (Below.refl _ _) _)) (by omega) (by simp) (aB (Below.refl _ _) _) ?_;rintro A2 c2 w2 o2 b2 g2;have hs2:=b2.size;simp only [Nat.zero_add,List.nil_append] at o2)
    | (at_builtin;refine oM rfl _ _ rfl w.heap.size wr.heap.size A' k c' (xss.take k) wr.heap.size A2 m1 c2 _ rfl (HO.out.below b2) o2 rfl (by omega) (Nat.le_refl _) (by omega) (by omega) (by omega) (aA HE.out b2) ?_;rintro g cap w3 o3 b3))
   go_roundw
   case rel=>exact ⟨k+1,_,_,by omega,by go_num,rfl,by rw [nG (by rw [HX.out];exact hlt)];exact o3,b3⟩
   case measure=>simp [intOf];omega
  ·have hkn:k=n:=by omega
   subst hkn
   go_wp2_with fail
   go_ret
   exact ⟨_,_,rfl,by have:=HO.out;rwa [List.take_of_length_le (by rw [HX.out];exact Nat.le_refl _)] at this,HE.out⟩
end Go.Proofs.YtignkfhdkcgkgaaGreat
