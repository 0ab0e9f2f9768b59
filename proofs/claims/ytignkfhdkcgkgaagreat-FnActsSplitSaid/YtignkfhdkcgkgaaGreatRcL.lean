/- TilesOf: the tiles of a kind: both. -/
import Derived.Test.YtignkfhdkcgkgaaGreatAcS
import Derived.Test.YtignkfhdkcgkgaaGreatOps
namespace Go.Proofs.YtignkfhdkcgkgaaGreat
set_option maxHeartbeats 1000000
set_option maxRecDepth 100000
open Go.RowKit
def qy (d:Dev) (kd:Int):Nat→List Int
 | 0=>[]
 | k+1=>qy d kd k++if bA d (k:Int)=kd then [(k:Int)] else []
def oZ (d:Dev) (kd:Int):List Int:=if bL d then qy d kd (tiles d) else []
theorem IQ (d:Dev) (kd:Int) (k:Nat):(qy d kd k).length<=k:=by
 induction k with
 | zero=>simp [qy]
 | succ k ih=>unfold qy;split <;> simp <;> omega
theorem FP (d:Dev) (kd:Int):(oZ d kd).length<=36:=by
 unfold oZ
 split
 ·rename_i h
  have:=(bO h).2.2
  have:=IQ d kd (tiles d)
  omega
 ·simp
theorem Ea (d:Dev) (kd:Int) (w:World) :
  Calls Tryz.prog 104 #[.agg #[.int .i64 d.W,.int .i64 d.H,.int .i64 d.T,.int .i64 d.R],.int .i64 kd] w fun e w'=>∃A m c,e = .returned (.slice A m c)/\Own w.heap.size w' A m c (oZ d kd)/\Below w.heap.size w w':=by
 have hB0:Below w.heap.size w (w.alloc (.cells #[.int .i64 d.W,.int .i64 d.H,.int .i64 d.T,.int .i64 d.R] 25)):=aB (Below.refl _ _) _
 go_enter Tryz.func104,Tryz.ntmps104
 go_wp2_with fail
 refine (fM d _).mono ?_
 rintro e w1 ⟨rfl,b1⟩
 have hs1:=b1.size
 simp only [World.size_alloc] at hs1
 obtain ⟨hcc,hff⟩:=aQ b1
 have B1:=Hd b1
 clear b1
 cases hd:bL d with
 | false =>
  have HD:=Hd hd
  clear hd
  go_wp2_with fail
  go_ret
  exact ⟨none,0,0,rfl,by rw [oZ,HD.out];exact Own.nil,aA hB0 B1.out⟩
 | true =>
  obtain ⟨hN,hN1,hN2⟩:=bO hd
  have HD:=Hd hd
  clear hd
  generalize hT:tiles d=N at *
  have HT:=Hd hT
  clear hT
  go_wp2_with fail
  go_loopw [5,6] (fun v i wr=>∃(k:Nat) (A:Option Addr) (m c:Nat),k<=N/\m<=k/\i = .int .i64 k/\v = .slice A m c/\Own ((w.alloc (.cells #[.int .i64 d.W,.int .i64 d.H,.int .i64 d.T,.int .i64 d.R] 25))).heap.size wr A m c (qy d kd k)/\Below ((w.alloc (.cells #[.int .i64 d.W,.int .i64 d.H,.int .i64 d.T,.int .i64 d.R] 25))).heap.size (w.alloc (.cells #[.int .i64 d.W,.int .i64 d.H,.int .i64 d.T,.int .i64 d.R] 25)) wr) (fun _ i _=>N - (intOf i).toNat)
  case atStart=>exact ⟨0,none,0,0,Nat.zero_le _,Nat.zero_le _,rfl,rfl,Own.nil,B1.out⟩
  case round =>
   obtain ⟨k,A,m,c,hk,hmk,rfl,rfl,ho,hbe⟩:=hrel
   clear hcc hff
   obtain ⟨hcc,hff⟩:=aQ hbe
   have hsw:=hbe.size
   simp only [World.size_alloc] at hsw
   have HO:=Hd ho
   have HE:=Hd hbe
   clear ho hbe
   by_cases hlt:k<N
   ·go_wp2_with fail
    refine (ik d k _ HD.out (by omega) (by omega)).mono ?_
    rintro e w3 ⟨rfl,b3⟩
    have O3:=Hd (HO.out.below b3)
    have E3:=Hd (aA HE.out b3)
    have s3:=b3.size
    clear b3
    have hs:=qy.eq_2 d kd k
    have HS:=Hd hs
    clear hs
    by_cases hin:bA d (k:Int)=kd
    ·have hq:(bA d (k:Int)==kd)=true:=by simp [hin]
     have HI:=Hd hin
     clear hin hcc hff
     obtain ⟨hcc,hff⟩:=aQ E3.out
     go_wp2_with (at_builtin;refine av rfl _ _ rfl ((w.alloc (.cells #[.int .i64 d.W,.int .i64 d.H,.int .i64 d.T,.int .i64 d.R] 25))).heap.size A m c (qy d kd k) (k:Int) rfl O3.out rfl (by omega) E3.out.size E3.out ?_;rintro g4 cap w4 o4 b4 gr4 hat4)
     go_roundw
     case rel=>exact ⟨k+1,_,_,_,by omega,by omega,by go_num,rfl,by rw [HS.out,if_pos HI.out];exact o4,b4⟩
     case measure=>simp [intOf];omega
    ·have hq:(bA d (k:Int)==kd)=false:=by simp [hin]
     have HI:=Hd hin
     clear hin hcc hff
     obtain ⟨hcc,hff⟩:=aQ E3.out
     go_wp2_with fail
     go_roundw
     case rel=>exact ⟨k+1,A,m,c,by omega,by omega,by go_num,rfl,by rw [HS.out,if_neg HI.out];simpa using O3.out,E3.out⟩
     case measure=>simp [intOf];omega
   ·have hkn:k=N:=by omega
    subst hkn
    go_wp2_with fail
    go_ret
    exact ⟨_,_,_,rfl,by rw [oZ,HD.out,if_pos rfl,HT.out];exact HO.out.more hB0.size,aA hB0 HE.out⟩
theorem Ak (d:Dev) (t:Int) (w:World) (hd:bL d=true) (h0:0<=t) (h1:t<(tiles d:Int)) :
  Calls Tryz.prog 68 #[.agg #[.int .i64 d.W,.int .i64 d.H,.int .i64 d.T,.int .i64 d.R],.int .i64 t] w fun e w'=>e = .returned (.int .i64 (bA d t))/\Below w.heap.size w w':=by
 have h:=iE d t w (by have:=bO hd;omega)
 rw [jA,if_pos ⟨hd,h0,by have:=(bO hd).1;omega⟩] at h
 exact h
theorem DK (d:Dev) (kd:Int) (w:World) :
  Calls Tryz.prog 69 #[.agg #[.int .i64 d.W,.int .i64 d.H,.int .i64 d.T,.int .i64 d.R],.int .i64 kd] w fun e w'=>∃A m c,e = .returned (.slice A m c)/\Own w.heap.size w' A m c (oZ d kd)/\Below w.heap.size w w':=by
 have hB0:Below w.heap.size w (w.alloc (.cells #[.int .i64 d.W,.int .i64 d.H,.int .i64 d.T,.int .i64 d.R] 25)):=aB (Below.refl _ _) _
 go_enter Tryz.func69,Tryz.ntmps69
 go_wp2_with fail
 refine (dJ d _).mono ?_
 rintro e w1 ⟨rfl,b1⟩
 have hs1:=b1.size
 simp only [World.size_alloc] at hs1
 replace hs1:w.heap.size+2<=w1.heap.size:=by omega
 have O1:=Hd ((Own.newAt (base:=((w.alloc (.cells #[.int .i64 d.W,.int .i64 d.H,.int .i64 d.T,.int .i64 d.R] 25))).heap.size) (w:=(w.alloc (.cells #[.int .i64 d.W,.int .i64 d.H,.int .i64 d.T,.int .i64 d.R] 25))) (g:=w.heap.size+1) (by simp) (by simp)).below b1)
 replace b1:=aA (aB (Below.refl ((w.alloc (.cells #[.int .i64 d.W,.int .i64 d.H,.int .i64 d.T,.int .i64 d.R] 25))).heap.size (w.alloc (.cells #[.int .i64 d.W,.int .i64 d.H,.int .i64 d.T,.int .i64 d.R] 25))) _) b1
 obtain ⟨hcc,hff⟩:=aQ b1
 have B1:=Hd b1
 clear b1
 cases hd:bL d with
 | false =>
  have HD:=Hd hd
  clear hd
  go_wp2_with fail
  go_ret
  exact ⟨_,0,0,rfl,by rw [oZ,HD.out];exact O1.out.more hB0.size,aA hB0 B1.out⟩
 | true =>
  obtain ⟨hN,hN1,hN2⟩:=bO hd
  have HD:=Hd hd
  clear hd
  generalize hT:tiles d=N at *
  have HT:=Hd hT
  clear hT
  go_wp2_with fail
  go_loopw [5,6] (fun v i wr=>∃(k:Nat) (A:Option Addr) (m c:Nat),k<=N/\m<=k/\i = .int .i64 k/\v = .slice A m c/\Own ((w.alloc (.cells #[.int .i64 d.W,.int .i64 d.H,.int .i64 d.T,.int .i64 d.R] 25))).heap.size wr A m c (qy d kd k)/\Below ((w.alloc (.cells #[.int .i64 d.W,.int .i64 d.H,.int .i64 d.T,.int .i64 d.R] 25))).heap.size (w.alloc (.cells #[.int .i64 d.W,.int .i64 d.H,.int .i64 d.T,.int .i64 d.R] 25)) wr) (fun _ i _=>N - (intOf i).toNat)
  case atStart=>exact ⟨0,_,0,0,Nat.zero_le _,Nat.zero_le _,rfl,rfl,O1.out,B1.out⟩
  case round =>
   obtain ⟨k,A,m,c,hk,hmk,rfl,rfl,ho,hbe⟩:=hrel
   clear hcc hff
   obtain ⟨hcc,hff⟩:=aQ hbe
   have hsw:=hbe.size
   simp only [World.size_alloc] at hsw
   have HO:=Hd ho
   have HE:=Hd hbe
   clear ho hbe
   by_cases hlt:k<N
   ·go_wp2_with fail
    refine (Ak d k _ HD.out (by omega) (by rw [HT.out];omega)).mono ?_
    rintro e w3 ⟨rfl,b3⟩
    have O3:=Hd (HO.out.below b3)
    have E3:=Hd (aA HE.out b3)
    have s3:=b3.size
    clear b3
    have hs:=qy.eq_2 d kd k
    have HS:=Hd hs
    clear hs
    by_cases hin:bA d (k:Int)=kd
    ·have hq:(bA d (k:Int)==kd)=true:=by simp [hin]
     have HI:=Hd hin
     clear hin hcc hff
     obtain ⟨hcc,hff⟩:=aQ E3.out
     go_wp2_with (at_builtin;refine av rfl _ _ rfl ((w.alloc (.cells #[.int .i64 d.W,.int .i64 d.H,.int .i64 d.T,.int .i64 d.R] 25))).heap.size A m c (qy d kd k) (k:Int) rfl O3.out rfl (by omega) E3.out.size E3.out ?_;rintro g4 cap w4 o4 b4 gr4 hat4)
     go_roundw
     case rel=>exact ⟨k+1,_,_,_,by omega,by omega,by go_num,rfl,by rw [HS.out,if_pos HI.out];exact o4,b4⟩
     case measure=>simp [intOf];omega
    ·have hq:(bA d (k:Int)==kd)=false:=by simp [hin]
     have HI:=Hd hin
     clear hin hcc hff
     obtain ⟨hcc,hff⟩:=aQ E3.out
     go_wp2_with fail
     go_roundw
     case rel=>exact ⟨k+1,A,m,c,by omega,by omega,by go_num,rfl,by rw [HS.out,if_neg HI.out];simpa using O3.out,E3.out⟩
     case measure=>simp [intOf];omega
   ·have hkn:k=N:=by omega
    subst hkn
    go_wp2_with fail
    go_ret
    exact ⟨_,_,_,rfl,by rw [oZ,HD.out,if_pos rfl,HT.out];exact HO.out.more hB0.size,aA hB0 HE.out⟩
def oh (o:List Int) (t:Int):Bool:=decide (0<=t) && (decide (t<o.length) && (o[t.toNat]?.getD 0==1))
def mM (o ts:List Int):Nat→Int
 | 0=>0
 | k+1=>mM o ts k+if oh o (ts[k]?.getD 0) then 2 ^ k else 0
def nK (o ts:List Int):Int:=if ts.length<=40 then mM o ts ts.length else 0
theorem zM (o ts:List Int) (k:Nat):0<=mM o ts k/\mM o ts k<2 ^ k:=by
 induction k with
 | zero=>simp [mM]
 | succ k ih =>
  have hp:(2:Int) ^ (k+1)=2 ^ k+2 ^ k:=by rw [Int.pow_succ];omega
  have:(0:Int)<2 ^ k:=Int.pow_pos (by omega)
  unfold mM
  split <;> omega
theorem Eb (A:Option Addr) (n c:Nat) (xs:List Int) (B:Option Addr) (m d:Nat) (ys:List Int) (w:World) (hA:bN w A n xs) (hB:bN w B m ys) (hn:n<=1099511627776) (hm:m<=1099511627776) :
  Calls Tryz.prog 84 #[.slice A n c,.slice B m d] w fun e w'=>e = .returned (.int .i64 (nK xs ys))/\Below w.heap.size w w':=by
 obtain ⟨hx,hA⟩:=hA
 obtain ⟨hy,hB⟩:=hB
 have HX:=Hd hx
 have HY:=Hd hy
 clear hx hy
 by_cases hm4:m<=40
 ·go_enter Tryz.func84,Tryz.ntmps84
  go_wp2_with fail
  go_loopw [5,13] (fun v i wr=>∃k nq:Nat,k<=m/\i = .int .i64 k/\v = .int .i64 (mM xs ys k)/\wr=w.drewN nq) (fun _ i _=>m - (intOf i).toNat)
  case atStart=>exact ⟨0,0,Nat.zero_le _,rfl,rfl,rfl⟩
  case round =>
   obtain ⟨k,nq,hk,rfl,rfl,rfl⟩:=hrel
   obtain ⟨hb0,hb1⟩:=zM xs ys k
   by_cases hlt:k<m
   ·obtain ⟨b,o,rfl,hb,hc⟩:=hB (by omega)
    have hck:=hc k hlt
    have hi0:(0:Int)<=(k:Int):=by omega
    have hi1:(k:Int)<(m:Int):=by omega
    have hs:=mM.eq_2 xs ys k
    have HS:=Hd hs
    clear hc hs
    generalize ys[k]?.getD 0=t at *
    by_cases ht:inR t 0 ((n:Int) - 1)=true
    ·have htb:=aa.1 ht
     obtain ⟨b',o',rfl,hb',hc'⟩:=hA (by omega)
     have hct:=hc' t.toNat (by omega)
     clear hc'
     go_wp2_with (go_at_call 116;refine (aN _ _ _ _).mono ?_;rintro e w' ⟨rfl,rfl⟩)
     ·have h1:xs[t.toNat]?.getD 0=1:=by simpa using ‹(xs[t.toNat]?.getD 0==1)=true›
      have hh:oh xs t=true:=by simp [oh,h1,HX.out];omega
      go_roundw
      case rel=>exact ⟨k+1,_,by omega,by go_num,by
       rw [HS.out,hh,pM (by omega),Ew _ _ hb0 hb1 (by omega)];simp,rfl⟩
      case measure=>simp [intOf];omega
     ·have h1:xs[t.toNat]?.getD 0≠1:=by simpa using ‹(xs[t.toNat]?.getD 0==1)=false›
      have hh:oh xs t=false:=by simp [oh,h1]
      go_roundw
      case rel=>exact ⟨k+1,_,by omega,by go_num,by rw [HS.out,hh];simp,rfl⟩
      case measure=>simp [intOf];omega
    ·go_wp2_with (go_at_call 116;refine (aN _ _ _ _).mono ?_;rintro e w' ⟨rfl,rfl⟩)
     go_roundw
     case rel=>exact ⟨k+1,_,by omega,by go_num,by
      rw [HS.out]
      have:oh xs t=false:=by
       have:=gF.1 (Bool.not_eq_true _ ▸ ht)
       simp only [oh,HX.out,Bool.and_eq_false_iff,decide_eq_false_iff_not];omega
      simp [this],rfl⟩
     case measure=>simp [intOf];omega
   ·have hkn:k=m:=by omega
    subst hkn
    go_wp2
    go_ret
    exact ⟨ag (by simp [nK,HY.out,hm4]),ai (Below.refl _ _) _⟩
 ·have hne:decide ((m:Int)>40)=true:=by simp;omega
  go_enter Tryz.func84,Tryz.ntmps84
  go_wp2_with fail
  go_ret
  exact ⟨ag (by simp [nK,HY.out,hm4]),Below.refl _ _⟩
theorem DL (A:Option Addr) (n c:Nat) (xs:List Int) (B:Option Addr) (m d:Nat) (ys:List Int) (w:World) (hA:bN w A n xs) (hB:bN w B m ys) (hn:n<=1099511627776) (hm:m<=1099511627776) :
  Calls Tryz.prog 125 #[.slice A n c,.slice B m d] w fun e w'=>e = .returned (.int .i64 (nK xs ys))/\Below w.heap.size w w':=by
 obtain ⟨hx,hA⟩:=hA
 obtain ⟨hy,hB⟩:=hB
 have HX:=Hd hx
 have HY:=Hd hy
 clear hx hy
 by_cases hm4:m<=40
 ·have hm4':decide ((m:Int)<=40)=true:=by simp;omega
  go_enter Tryz.func125,Tryz.ntmps125
  go_wp2_with fail
  go_loopw [5,6] (fun v i wr=>∃k nq:Nat,k<=m/\i = .int .i64 k/\v = .int .i64 (mM xs ys k)/\wr=w.drewN nq) (fun _ i _=>m - (intOf i).toNat)
  case atStart=>exact ⟨0,0,Nat.zero_le _,rfl,rfl,rfl⟩
  case round =>
   obtain ⟨k,nq,hk,rfl,rfl,rfl⟩:=hrel
   obtain ⟨hb0,hb1⟩:=zM xs ys k
   by_cases hlt:k<m
   ·obtain ⟨b,o,rfl,hb,hc⟩:=hB (by omega)
    have hck:=hc k hlt
    have hi0:(0:Int)<=(k:Int):=by omega
    have hi1:(k:Int)<(m:Int):=by omega
    have hs:=mM.eq_2 xs ys k
    have HS:=Hd hs
    clear hc hs
    generalize ys[k]?.getD 0=t at *
    by_cases ht:inR t 0 ((n:Int) - 1)=true
    ·have htb:=aa.1 ht
     obtain ⟨b',o',rfl,hb',hc'⟩:=hA (by omega)
     have hct:=hc' t.toNat (by omega)
     clear hc'
     have hw0:wrap64 (2 ^ k)=2 ^ k:=pM (by omega)
     have hw1:wrap64 (mM xs ys k+wrap64 (2 ^ k))=mM xs ys k+2 ^ k:=by
      rw [hw0]
      have hp:=kZ (show k<=61+1 by omega)
      have hp':2 ^ k<4611686018427387904:=Nat.lt_of_lt_of_le (Nat.pow_lt_pow_right (by omega) (show k<41 by omega)) (by decide)
      rw [jY] at hb1 ⊢
      generalize 2 ^ k=p at *
      exact IntWalk.wrap64_in _ ⟨by omega,by omega⟩
     have HW:=Hd hw1
     clear hw0 hw1
     go_wp2_with fail
     ·have h1:xs[t.toNat]?.getD 0=1:=by simpa using ‹(xs[t.toNat]?.getD 0==1)=true›
      have hh:oh xs t=true:=by simp [oh,h1,HX.out];omega
      go_roundw
      case rel=>exact ⟨k+1,_,by omega,by go_num,by rw [HS.out,hh,HW.out];simp,rfl⟩
      case measure=>simp [intOf];omega
     ·have h1:xs[t.toNat]?.getD 0≠1:=by simpa using ‹(xs[t.toNat]?.getD 0==1)=false›
      have hh:oh xs t=false:=by simp [oh,h1]
      go_roundw
      case rel=>exact ⟨k+1,_,by omega,by go_num,by rw [HS.out,hh];simp,rfl⟩
      case measure=>simp [intOf];omega
    ·have hh:oh xs t=false:=by
      have:=gF.1 (Bool.not_eq_true _ ▸ ht)
      simp only [oh,HX.out,Bool.and_eq_false_iff,decide_eq_false_iff_not];omega
     rcases gF.1 (Bool.not_eq_true _ ▸ ht) with h|h
     ·have hd:decide (t≥0)=false:=by simp;omega
      clear hA
      go_wp2_with fail
      go_roundw
      case rel=>exact ⟨k+1,_,by omega,by go_num,by rw [HS.out,hh];simp,rfl⟩
      case measure=>simp [intOf];omega
     ·have hd:decide (t<(n:Int))=false:=by simp;omega
      have hd':decide (t≥0)=true:=by simp;omega
      clear hA
      go_wp2_with fail
      go_roundw
      case rel=>exact ⟨k+1,_,by omega,by go_num,by rw [HS.out,hh];simp,rfl⟩
      case measure=>simp [intOf];omega
   ·have hkn:k=m:=by omega
    subst hkn
    go_wp2
    go_ret
    exact ⟨ag (by simp [nK,HY.out,hm4]),ai (Below.refl _ _) _⟩
 ·have hne:decide ((m:Int)<=40)=false:=by simp;omega
  by_cases h0:m=0
  ·omega
  have hp:(0:Int)<(m:Int):=by omega
  go_enter Tryz.func125,Tryz.ntmps125
  go_wp2_with fail
  refine wp_loop_rounds 1 ?_;rw [rounds_succ]
  go_wp2
  go_ret
  exact ⟨ag (by simp [nK,HY.out,hm4]),Below.refl _ _⟩
def lG (c:Bool):Int:=if c=true then 1 else 0
def daP (b:Bd) (x:Ac):List Int:=gu b.dev (oZ b.dev 0) x.A
def daB (b:Bd) (x:Ac):Bd :=
 if kD b x=true then
  (if x.kind=0 then spB b (daP b x) else if x.kind=2 then scB b else if x.kind=1 then upB b x.A x.B x.C else if x.kind=3 then beB b x.reg else if x.kind=4 then wrB b x.A x.words else if x.kind=5 then coB b x.A else abB b)
 else b
def daN (b:Bd) (x:Ac):Int :=
 if kD b x=true then
  (if x.kind=0 then nK (spN b (daP b x)) (oZ b.dev 0) else if x.kind=2 then scN b 1+1000 * scN b 2 else if x.kind=1 then lG (upO b x.A x.B x.C) else if x.kind=3 then lG (beO b x.reg) else if x.kind=4 then lG (wrO b x.A x.words) else if x.kind=5 then lG (coO b x.A) else lG (abO b))
 else -1
theorem Jt {M:Nat} (hM:432<=M) {b:Bd} (h:BdB M b) (x:Ac):BdB M (daB b x):=by
 unfold daB
 split
 ·split
  ·exact Js h _
  ·split
   ·exact Jn h
   ·split
    ·exact Jm h _ _ _
    ·split
     ·exact Jo h _
     ·split
      ·exact Jp hM h _ _
      ·split
       ·exact Jr hM h _
       ·exact Jq hM h
 ·exact h
def Ac.zero:Ac:=⟨0,0,0,0,rZ,[]⟩
def iR (b:Bd) (xs:List Ac):Nat→Bd × List Int
 | 0=>(b,[])
 | k+1=>(daB (iR b xs k).1 (xs[k]?.getD Ac.zero),(iR b xs k).2++[daN (iR b xs k).1 (xs[k]?.getD Ac.zero)])
def raO (b:Bd) (xs:List Ac):Bool:=bkF b && decide (xs.length<=24)
def raB (b:Bd) (xs:List Ac):Bd:=if raO b xs=true then (iR b xs xs.length).1 else b
def raN (b:Bd) (xs:List Ac):List Int:=if raO b xs=true then (iR b xs xs.length).2 else []
theorem IR (b:Bd) (xs:List Ac) (k:Nat):(iR b xs k).2.length=k:=by
 induction k with
 | zero=>rfl
 | succ k ih=>simp [iR,ih]
theorem KN {b:Bd} (h:bkF b=true):BdB 432 b:=by
 obtain ⟨hf,hs,-,h1,h2⟩:=bz h
 have hn:=dR hf
 refine ⟨pm (fun j _=>jD hf j) hn.2,?_,?_⟩
 ·have e1:=oL hs
  have e2:=hn.1
  have e3:=hn.2
  omega
 ·rcases Decidable.em (b.phase=1) with hp|hp
  ·have hs:=(oO (h1 hp)).1
   exact pm (fun j _=>jD hs j) (dR hs).2
  ·rw [(h2 hp).2]
   simp [bF,iO]
theorem JH {b:Bd} (h:bkF b=true) (xs:List Ac) (k:Nat):BdB 432 (iR b xs k).1:=by
 induction k with
 | zero=>exact KN h
 | succ k ih=>exact Jt (Nat.le_refl _) ih _
def kU (w:World) (A:Option Addr) (n:Nat) (xs:List Ac):Prop:=xs.length=n/\(0<n→∃b o,A=some ⟨b,o,none⟩/\b<w.heap.size/\∀j,j<n→∃WA wn wc,
 w.cell? ⟨b,o+j * 9,none⟩=some (.int .i64 (xs[j]?.getD Ac.zero).kind)/\w.cell? ⟨b,o+j * 9+1,none⟩=some (.int .i64 (xs[j]?.getD Ac.zero).A)/\w.cell? ⟨b,o+j * 9+2,none⟩=some (.int .i64 (xs[j]?.getD Ac.zero).B)/\w.cell? ⟨b,o+j * 9+3,none⟩=some (.int .i64 (xs[j]?.getD Ac.zero).C) /\
 w.cell? ⟨b,o+j * 9+4,none⟩=some (.int .i64 (xs[j]?.getD Ac.zero).reg.X0)/\w.cell? ⟨b,o+j * 9+5,none⟩=some (.int .i64 (xs[j]?.getD Ac.zero).reg.Y0)/\w.cell? ⟨b,o+j * 9+6,none⟩=some (.int .i64 (xs[j]?.getD Ac.zero).reg.X1)/\w.cell? ⟨b,o+j * 9+7,none⟩=some (.int .i64 (xs[j]?.getD Ac.zero).reg.Y1) /\
 w.cell? ⟨b,o+j * 9+8,none⟩=some (.slice WA wn wc)/\bN w WA wn (xs[j]?.getD Ac.zero).words)
theorem kU.below {w w':World} {A:Option Addr} {n:Nat} {xs:List Ac} (h:kU w A n xs) (hb:Below w.heap.size w w'):kU w' A n xs:=by
 refine ⟨h.1,fun hn=>?_⟩
 obtain ⟨b,o,e,hlt,hc⟩:=h.2 hn
 refine ⟨b,o,e,fI hb hlt,fun j hj=>?_⟩
 obtain ⟨WA,wn,wc,c0,c1,c2,c3,c4,c5,c6,c7,c8,hi⟩:=hc j hj
 have k:=fun (i:Nat)=>hb.cell (p:=⟨b,i,none⟩) hlt
 exact ⟨WA,wn,wc,(k _).trans c0,(k _).trans c1,(k _).trans c2,(k _).trans c3,(k _).trans c4,(k _).trans c5,(k _).trans c6,(k _).trans c7,(k _).trans c8,hi.below hb⟩
def fQ (P:Nat→Prop) (lo hi:Nat) (w:World) (b:Bd) (s:Sl3):Prop:=∃S1 S2 S3,Au w b s lo hi S1 S2 S3/\∀k,P k→¬S1 k/\¬S2 k/\¬S3 k
theorem fQ.of {P:Nat→Prop} {lo hi:Nat} {w:World} {b:Bd} {s:Sl3} (h:aH lo hi w b s) (hp:∀k,P k→k<lo∨hi<=k):fQ P lo hi w b s:=by
 obtain ⟨S1,S2,S3,q⟩:=h
 exact ⟨S1,S2,S3,q,fun k hk=>⟨fun x=>by have:=q.i1 k x;have:=hp k hk;omega,fun x=>by have:=q.i2 k x;have:=hp k hk;omega,fun x=>by have:=q.i3 k x;have:=hp k hk;omega⟩⟩
theorem fQ.fp {P:Nat→Prop} {lo hi:Nat} {w:World} {b:Bd} {s:Sl3} (h:fQ P lo hi w b s):aH lo hi w b s:=by
 obtain ⟨S1,S2,S3,q,-⟩:=h
 exact ⟨S1,S2,S3,q⟩
theorem fQ.keep {P:Nat→Prop} {lo hi:Nat} {w w':World} {b:Bd} {s:Sl3} (h:fQ P lo hi w b s) (hk:∀k,k<w.heap.size→lo<=k→k<hi→¬P k→w'.heap[k]?=w.heap[k]?):fQ P lo hi w' b s:=by
 obtain ⟨S1,S2,S3,q,n⟩:=h
 refine ⟨S1,S2,S3,q.keep fun i hi' hs=>?_,n⟩
 rcases hs with x|x|x
 ·exact hk i hi' (q.i1 i x).1 (q.i1 i x).2 fun p=>(n i p).1 x
 ·exact hk i hi' (q.i2 i x).1 (q.i2 i x).2 fun p=>(n i p).2.1 x
 ·exact hk i hi' (q.i3 i x).1 (q.i3 i x).2 fun p=>(n i p).2.2 x
theorem fQ.weak {P Q:Nat→Prop} {lo hi lo' hi':Nat} {w:World} {b:Bd} {s:Sl3} (h:fQ P lo hi w b s) (e1:lo'<=lo) (e2:hi<=hi') (hq:∀k,Q k→P k∨k<lo∨hi<=k):fQ Q lo' hi' w b s:=by
 obtain ⟨S1,S2,S3,q,n⟩:=h
 have j1:=q.i1
 have j2:=q.i2
 have j3:=q.i3
 refine ⟨S1,S2,S3,⟨q.frames.widen e1 e2,q.f1,q.state.more e1,q.f2,q.saved.widen e1 e2,q.f3,q.d12,q.d13,q.d23,fun i h=>by have:=j1 i h;omega,fun i h=>by have:=j2 i h;omega,fun i h=>by have:=j3 i h;omega⟩,fun k hk=>?_⟩
 rcases hq k hk with p|p
 ·exact n k p
 ·exact ⟨fun x=>by have:=j1 k x;omega,fun x=>by have:=j2 k x;omega,fun x=>by have:=j3 k x;omega⟩
theorem fQ.same {P:Nat→Prop} {lo hi:Nat} {w w':World} {b:Bd} {s:Sl3} (h:fQ P lo hi w b s) (hb:Below w.heap.size w w'):fQ P lo hi w' b s:=h.keep fun k hk _ _ _=>hb.block k hk
def GQ (g:Nat) (A:Option Addr) (k:Nat):Prop:=k=g∨∃a,A=some a/\a.block=k
theorem keepS {W w':World} (h:Below W.heap.size W w'):Below W.heap.size W w'/\∀b o,b<W.heap.size→w'.cell? ⟨b,o,none⟩=W.cell? ⟨b,o,none⟩:=⟨h,(aQ h).1⟩
def vK (W:World) (b:Bd) (v:Value) (p u:Value) (w':World):Prop:=∃(wx:World) (g:Nat) (R:Sl3) (lo hi:Nat),p = .pointer (some ⟨g,0,none⟩)/\u=v/\bD wx g b R/\W.heap.size<=g/\(g<lo∨hi<=g)/\W.heap.size<=lo/\hi<=wx.heap.size/\aH lo hi wx b R/\Below W.heap.size W wx/\wx=w'
theorem vK.drew {W w1:World} {b:Bd} {v p u:Value} (h:vK W b v p u w1):vK W b v p u w1.drew:=by
 obtain ⟨wx,g,R,lo,hi,h1,h2,h3,h4,h5,h6,h7,h8,h9,rfl⟩:=h
 exact ⟨wx.drew,g,R,lo,hi,h1,h2,h3,h4,h5,h6,h7,h8.drewd,h9.drew,rfl⟩
theorem vK.drews {W w1:World} {b:Bd} {v p u:Value} (h:vK W b v p u w1):vK W b v p u w1.drew.drew:=h.drew.drew
theorem Below.put12 {a w:World} {lo g:Nat} {b:Bd} {s:Sl3} (h:Below lo a w) (hg:lo<=g):Below lo a (Go.Proofs.YtignkfhdkcgkgaaGreat.put12 w g b s):=by
 repeat (first|with_reducible exact h|with_reducible refine Below.setCell ?_ (by exact hg) _)
theorem fQ.setState {P:Nat→Prop} {lo hi base hi2:Nat} {w:World} {b b':Bd} {s:Sl3} {A:Option Addr} {n c:Nat} (h:aH lo hi w b s) (o:Own base w A n c b'.state) (l:ig A base hi2) (hb:hi<=base) (hl:lo<=base) (hh:hi<=hi2) (e1:b'.frames=b.frames) (e3:b'.saved=b.saved)
  (hP:∀k,P k→(k<lo∨hi<=k)/\(k<base∨hi2<=k)):fQ P lo hi2 w b' ⟨s.A1,s.n1,s.c1,A,n,c,s.A3,s.n3,s.c3⟩:=by
 obtain ⟨S1,S2,S3,k⟩:=h
 have j1:=k.i1
 have j3:=k.i3
 refine ⟨S1,fun i=>base<=i/\i<hi2,S3,⟨by rw [e1];exact k.frames.widen (Nat.le_refl _) hh,k.f1,o.more hl,l,by rw [e3];exact k.saved.widen (Nat.le_refl _) hh,k.f3,
  fun i x y=>by have:=j1 i x;omega,k.d13,fun i x y=>by have:=j3 i y;omega,fun i x=>by have:=j1 i x;omega,fun i x=>by omega,fun i x=>by have:=j3 i x;omega⟩,fun i hi=>?_⟩
 have hp:=hP i hi
 exact ⟨fun x=>by have:=j1 i x;omega,fun x=>by omega,fun x=>by have:=j3 i x;omega⟩
theorem fQ.rd {P:Nat→Prop} {lo hi:Nat} {w:World} {b:Bd} {s:Sl3} (h:fQ P lo hi w b s):bT w b s:=h.fp.rd
def Two (g1 g2 k:Nat):Prop:=k=g1∨k=g2
theorem qz {P:Program} {ops:Array Oper} {Q:Exit→Act→World→Prop} {a:Act} {w:World} {rest:List Oper} {o:Oper} (hw:Region.wanted o (yielded ops a.tmps)=true) (h:wpList P ops Q ({ o with guard:=none } :: rest) a w):wpList P ops Q (o :: rest) a w:=by
 unfold wpList at h ⊢
 rw [if_pos hw]
 rw [if_pos (by simp [Region.wanted])] at h
 exact h
def wX (W:World) (b:Bd) (ns:List Int) (p u:Value) (w':World):Prop:=∃(wx:World) (g:Nat) (R:Sl3) (N:Option Addr) (nn cc:Nat),p = .pointer (some ⟨g,0,none⟩)/\u = .slice N nn cc/\bD wx g b R/\bT wx b R/\bN wx N nn ns/\Below W.heap.size W wx/\wx=w'
theorem JZ {W w1:World} {b:Bd} {R:Sl3} {ns:List Int} {N:Option Addr} {nn cc:Nat} (hB:Below W.heap.size W w1) (hF:bT w1 b R) (hI:bN w1 N nn ns):wX W b ns (.pointer (some ⟨w1.heap.size,0,none⟩)) (.slice N nn cc) (w1.alloc (.cells (aD b R) 31)):=by
 have hb:=aB (Below.refl w1.heap.size w1) (.cells (aD b R) 31)
 exact ⟨_,w1.heap.size,R,N,nn,cc,rfl,rfl,aK _ _,hF.below hb,hI.below hb,aB hB _,rfl⟩
theorem Ja {W w1:World} {b:Bd} {R:Sl3} {ns:List Int} {N:Option Addr} {nn cc hi:Nat} (hB:Below W.heap.size W w1) (hF:aH (W.alloc (.cells z12 31)).drew.heap.size hi w1 b R) (hO:Own (W.alloc (.cells z12 31)).drew.heap.size w1 N nn cc ns)
  (hb:Below (W.alloc (.cells z12 31)).drew.heap.size (W.alloc (.cells z12 31)).drew w1):wX W b ns (.pointer (some ⟨W.heap.size,0,none⟩)) (.slice N nn cc) (put12 w1 W.heap.size b R):=by
 have hz:bD (W.alloc (.cells z12 31)).drew W.heap.size zBd zSl:=aK _ _
 have hs:(W.alloc (.cells z12 31)).drew.heap.size=W.heap.size+1:=by show (World.alloc _ _).heap.size=_;simp
 obtain ⟨h1,h2,h3,h4⟩:=bS (WF:=put12 w1 W.heap.size b R) rfl (hz.tr hb) hB (Nat.le_refl _)
 exact ⟨_,W.heap.size,R,N,nn,cc,rfl,rfl,h1,(hF.chg h4 (.inr (by omega))).rd,(hO.chg h4 hO.lies (.inr (by omega))).ints,h3,rfl⟩
end Go.Proofs.YtignkfhdkcgkgaaGreat
