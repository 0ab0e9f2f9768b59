/- TilesOf: the tiles of a kind: both. -/
import Derived.Test.YtignkfhdkcgkgaaGreatAcS
import Derived.Test.YtignkfhdkcgkgaaGreatOps
namespace Go.Proofs.YtignkfhdkcgkgaaGreat
set_option maxHeartbeats 1000000
set_option maxRecDepth 100000
open Go.RowKit
def pW (d:Dev) (kd:Int):Nat→List Int
 | 0=>[]
 | k+1=>pW d kd k++if ah d (k:Int)=kd then [(k:Int)] else []
def nM (d:Dev) (kd:Int):List Int:=if bO d then pW d kd (tiles d) else []
theorem FQ (d:Dev) (kd:Int) (k:Nat):(pW d kd k).length<=k:=by
 induction k with
 | zero=>simp [pW]
 | succ k ih=>unfold pW;split <;> simp <;> omega
theorem Dq (d:Dev) (kd:Int):(nM d kd).length<=36:=by
 unfold nM
 split
 ·rename_i h
  have:=(bT h).2.2
  have:=FQ d kd (tiles d)
  omega
 ·simp
theorem CR (d:Dev) (kd:Int) (w:World) :
  Calls Tryz.prog 104 #[.agg #[.int .i64 d.W,.int .i64 d.H,.int .i64 d.T,.int .i64 d.R],.int .i64 kd] w fun e w'=>∃A m c,e = .returned (.slice A m c)/\Own w.heap.size w' A m c (nM d kd)/\Below w.heap.size w w':=by
 have hB0:Below w.heap.size w (w.alloc (.cells #[.int .i64 d.W,.int .i64 d.H,.int .i64 d.T,.int .i64 d.R] 25)):=aB (Below.refl _ _) _
 go_enter Tryz.func104,Tryz.ntmps104
 go_wp2_with fail
 refine (fB d _).mono ?_
 rintro e w1 ⟨rfl,b1⟩
 have hs1:=b1.size
 simp only [World.size_alloc] at hs1
 obtain ⟨hcc,hff⟩:=aO b1
 have B1:=Hd b1
 clear b1
 cases hd:bO d with
 | false =>
  have HD:=Hd hd
  clear hd
  go_wp2_with fail
  go_ret
  exact ⟨none,0,0,rfl,by rw [nM,HD.out];exact Own.nil,aA hB0 B1.out⟩
 | true =>
  obtain ⟨hN,hN1,hN2⟩:=bT hd
  have HD:=Hd hd
  clear hd
  generalize hT:tiles d=N at *
  have HT:=Hd hT
  clear hT
  go_wp2_with fail
  go_loopw [5,6] (fun v i wr=>∃(k:Nat) (A:Option Addr) (m c:Nat),k<=N/\m<=k/\i = .int .i64 k/\v = .slice A m c/\Own ((w.alloc (.cells #[.int .i64 d.W,.int .i64 d.H,.int .i64 d.T,.int .i64 d.R] 25))).heap.size wr A m c (pW d kd k)/\Below ((w.alloc (.cells #[.int .i64 d.W,.int .i64 d.H,.int .i64 d.T,.int .i64 d.R] 25))).heap.size (w.alloc (.cells #[.int .i64 d.W,.int .i64 d.H,.int .i64 d.T,.int .i64 d.R] 25)) wr) (fun _ i _=>N - (intOf i).toNat)
  case atStart=>exact ⟨0,none,0,0,Nat.zero_le _,Nat.zero_le _,rfl,rfl,Own.nil,B1.out⟩
  case round =>
   obtain ⟨k,A,m,c,hk,hmk,rfl,rfl,ho,hbe⟩:=hrel
   clear hcc hff
   obtain ⟨hcc,hff⟩:=aO hbe
   have hsw:=hbe.size
   simp only [World.size_alloc] at hsw
   have HO:=Hd ho
   have HE:=Hd hbe
   clear ho hbe
   by_cases hlt:k<N
   ·go_wp2_with fail
    refine (iC d k _ HD.out (by omega) (by omega)).mono ?_
    rintro e w3 ⟨rfl,b3⟩
    have O3:=Hd (HO.out.below b3)
    have E3:=Hd (aA HE.out b3)
    have s3:=b3.size
    clear b3
    have hs:=pW.eq_2 d kd k
    have HS:=Hd hs
    clear hs
    by_cases hin:ah d (k:Int)=kd
    ·have hq:(ah d (k:Int)==kd)=true:=by simp [hin]
     have HI:=Hd hin
     clear hin hcc hff
     obtain ⟨hcc,hff⟩:=aO E3.out
     go_wp2_with (at_builtin;refine ax rfl _ _ rfl ((w.alloc (.cells #[.int .i64 d.W,.int .i64 d.H,.int .i64 d.T,.int .i64 d.R] 25))).heap.size A m c (pW d kd k) (k:Int) rfl O3.out rfl (by omega) E3.out.size E3.out ?_;rintro g4 cap w4 o4 b4 gr4 hat4)
     go_roundw
     case rel=>exact ⟨k+1,_,_,_,by omega,by omega,by go_num,rfl,by rw [HS.out,if_pos HI.out];exact o4,b4⟩
     case measure=>simp [intOf];omega
    ·have hq:(ah d (k:Int)==kd)=false:=by simp [hin]
     have HI:=Hd hin
     clear hin hcc hff
     obtain ⟨hcc,hff⟩:=aO E3.out
     go_wp2_with fail
     go_roundw
     case rel=>exact ⟨k+1,A,m,c,by omega,by omega,by go_num,rfl,by rw [HS.out,if_neg HI.out];simpa using O3.out,E3.out⟩
     case measure=>simp [intOf];omega
   ·have hkn:k=N:=by omega
    subst hkn
    go_wp2_with fail
    go_ret
    exact ⟨_,_,_,rfl,by rw [nM,HD.out,if_pos rfl,HT.out];exact HO.out.more hB0.size,aA hB0 HE.out⟩
theorem yT (d:Dev) (t:Int) (w:World) (hd:bO d=true) (h0:0<=t) (h1:t<(tiles d:Int)) :
  Calls Tryz.prog 68 #[.agg #[.int .i64 d.W,.int .i64 d.H,.int .i64 d.T,.int .i64 d.R],.int .i64 t] w fun e w'=>e = .returned (.int .i64 (ah d t))/\Below w.heap.size w w':=by
 have h:=iL d t w (by have:=bT hd;omega)
 rw [iE,if_pos ⟨hd,h0,by have:=(bT hd).1;omega⟩] at h
 exact h
theorem zy (d:Dev) (kd:Int) (w:World) :
  Calls Tryz.prog 69 #[.agg #[.int .i64 d.W,.int .i64 d.H,.int .i64 d.T,.int .i64 d.R],.int .i64 kd] w fun e w'=>∃A m c,e = .returned (.slice A m c)/\Own w.heap.size w' A m c (nM d kd)/\Below w.heap.size w w':=by
 have hB0:Below w.heap.size w (w.alloc (.cells #[.int .i64 d.W,.int .i64 d.H,.int .i64 d.T,.int .i64 d.R] 25)):=aB (Below.refl _ _) _
 go_enter Tryz.func69,Tryz.ntmps69
 go_wp2_with fail
 refine (dK d _).mono ?_
 rintro e w1 ⟨rfl,b1⟩
 have hs1:=b1.size
 simp only [World.size_alloc] at hs1
 replace hs1:w.heap.size+2<=w1.heap.size:=by omega
 have O1:=Hd ((Own.newAt (base:=((w.alloc (.cells #[.int .i64 d.W,.int .i64 d.H,.int .i64 d.T,.int .i64 d.R] 25))).heap.size) (w:=(w.alloc (.cells #[.int .i64 d.W,.int .i64 d.H,.int .i64 d.T,.int .i64 d.R] 25))) (g:=w.heap.size+1) (by simp) (by simp)).below b1)
 replace b1:=aA (aB (Below.refl ((w.alloc (.cells #[.int .i64 d.W,.int .i64 d.H,.int .i64 d.T,.int .i64 d.R] 25))).heap.size (w.alloc (.cells #[.int .i64 d.W,.int .i64 d.H,.int .i64 d.T,.int .i64 d.R] 25))) _) b1
 obtain ⟨hcc,hff⟩:=aO b1
 have B1:=Hd b1
 clear b1
 cases hd:bO d with
 | false =>
  have HD:=Hd hd
  clear hd
  go_wp2_with fail
  go_ret
  exact ⟨_,0,0,rfl,by rw [nM,HD.out];exact O1.out.more hB0.size,aA hB0 B1.out⟩
 | true =>
  obtain ⟨hN,hN1,hN2⟩:=bT hd
  have HD:=Hd hd
  clear hd
  generalize hT:tiles d=N at *
  have HT:=Hd hT
  clear hT
  go_wp2_with fail
  go_loopw [5,6] (fun v i wr=>∃(k:Nat) (A:Option Addr) (m c:Nat),k<=N/\m<=k/\i = .int .i64 k/\v = .slice A m c/\Own ((w.alloc (.cells #[.int .i64 d.W,.int .i64 d.H,.int .i64 d.T,.int .i64 d.R] 25))).heap.size wr A m c (pW d kd k)/\Below ((w.alloc (.cells #[.int .i64 d.W,.int .i64 d.H,.int .i64 d.T,.int .i64 d.R] 25))).heap.size (w.alloc (.cells #[.int .i64 d.W,.int .i64 d.H,.int .i64 d.T,.int .i64 d.R] 25)) wr) (fun _ i _=>N - (intOf i).toNat)
  case atStart=>exact ⟨0,_,0,0,Nat.zero_le _,Nat.zero_le _,rfl,rfl,O1.out,B1.out⟩
  case round =>
   obtain ⟨k,A,m,c,hk,hmk,rfl,rfl,ho,hbe⟩:=hrel
   clear hcc hff
   obtain ⟨hcc,hff⟩:=aO hbe
   have hsw:=hbe.size
   simp only [World.size_alloc] at hsw
   have HO:=Hd ho
   have HE:=Hd hbe
   clear ho hbe
   by_cases hlt:k<N
   ·go_wp2_with fail
    refine (yT d k _ HD.out (by omega) (by rw [HT.out];omega)).mono ?_
    rintro e w3 ⟨rfl,b3⟩
    have O3:=Hd (HO.out.below b3)
    have E3:=Hd (aA HE.out b3)
    have s3:=b3.size
    clear b3
    have hs:=pW.eq_2 d kd k
    have HS:=Hd hs
    clear hs
    by_cases hin:ah d (k:Int)=kd
    ·have hq:(ah d (k:Int)==kd)=true:=by simp [hin]
     have HI:=Hd hin
     clear hin hcc hff
     obtain ⟨hcc,hff⟩:=aO E3.out
     go_wp2_with (at_builtin;refine ax rfl _ _ rfl ((w.alloc (.cells #[.int .i64 d.W,.int .i64 d.H,.int .i64 d.T,.int .i64 d.R] 25))).heap.size A m c (pW d kd k) (k:Int) rfl O3.out rfl (by omega) E3.out.size E3.out ?_;rintro g4 cap w4 o4 b4 gr4 hat4)
     go_roundw
     case rel=>exact ⟨k+1,_,_,_,by omega,by omega,by go_num,rfl,by rw [HS.out,if_pos HI.out];exact o4,b4⟩
     case measure=>simp [intOf];omega
    ·have hq:(ah d (k:Int)==kd)=false:=by simp [hin]
     have HI:=Hd hin
     clear hin hcc hff
     obtain ⟨hcc,hff⟩:=aO E3.out
     go_wp2_with fail
     go_roundw
     case rel=>exact ⟨k+1,A,m,c,by omega,by omega,by go_num,rfl,by rw [HS.out,if_neg HI.out];simpa using O3.out,E3.out⟩
     case measure=>simp [intOf];omega
   ·have hkn:k=N:=by omega
    subst hkn
    go_wp2_with fail
    go_ret
    exact ⟨_,_,_,rfl,by rw [nM,HD.out,if_pos rfl,HT.out];exact HO.out.more hB0.size,aA hB0 HE.out⟩
def nN (o:List Int) (t:Int):Bool:=decide (0<=t) && (decide (t<o.length) && (o[t.toNat]?.getD 0==1))
def kX (o ts:List Int):Nat→Int
 | 0=>0
 | k+1=>kX o ts k+if nN o (ts[k]?.getD 0) then 2 ^ k else 0
def lX (o ts:List Int):Int:=if ts.length<=40 then kX o ts ts.length else 0
theorem xS (o ts:List Int) (k:Nat):0<=kX o ts k/\kX o ts k<2 ^ k:=by
 induction k with
 | zero=>simp [kX]
 | succ k ih =>
  have hp:(2:Int) ^ (k+1)=2 ^ k+2 ^ k:=by rw [Int.pow_succ];omega
  have:(0:Int)<2 ^ k:=Int.pow_pos (by omega)
  unfold kX
  split <;> omega
theorem CS (A:Option Addr) (n c:Nat) (xs:List Int) (B:Option Addr) (m d:Nat) (ys:List Int) (w:World) (hA:bH w A n xs) (hB:bH w B m ys) (hn:n<=1099511627776) (hm:m<=1099511627776) :
  Calls Tryz.prog 84 #[.slice A n c,.slice B m d] w fun e w'=>e = .returned (.int .i64 (lX xs ys))/\Below w.heap.size w w':=by
 obtain ⟨hx,hA⟩:=hA
 obtain ⟨hy,hB⟩:=hB
 have HX:=Hd hx
 have HY:=Hd hy
 clear hx hy
 by_cases hm4:m<=40
 ·go_enter Tryz.func84,Tryz.ntmps84
  go_wp2_with fail
  go_loopw [5,13] (fun v i wr=>∃k nq:Nat,k<=m/\i = .int .i64 k/\v = .int .i64 (kX xs ys k)/\wr=w.drewN nq) (fun _ i _=>m - (intOf i).toNat)
  case atStart=>exact ⟨0,0,Nat.zero_le _,rfl,rfl,rfl⟩
  case round =>
   obtain ⟨k,nq,hk,rfl,rfl,rfl⟩:=hrel
   obtain ⟨hb0,hb1⟩:=xS xs ys k
   by_cases hlt:k<m
   ·obtain ⟨b,o,rfl,hb,hc⟩:=hB (by omega)
    have hck:=hc k hlt
    have hi0:(0:Int)<=(k:Int):=by omega
    have hi1:(k:Int)<(m:Int):=by omega
    have hs:=kX.eq_2 xs ys k
    have HS:=Hd hs
    clear hc hs
    generalize ys[k]?.getD 0=t at *
    by_cases ht:inR t 0 ((n:Int) - 1)=true
    ·have htb:=ak.1 ht
     obtain ⟨b',o',rfl,hb',hc'⟩:=hA (by omega)
     have hct:=hc' t.toNat (by omega)
     clear hc'
     go_wp2_with (go_at_call 116;refine (aN _ _ _ _).mono ?_;rintro e w' ⟨rfl,rfl⟩)
     ·have h1:xs[t.toNat]?.getD 0=1:=by simpa using ‹(xs[t.toNat]?.getD 0==1)=true›
      have hh:nN xs t=true:=by simp [nN,h1,HX.out];omega
      go_roundw
      case rel=>exact ⟨k+1,_,by omega,by go_num,by
       rw [HS.out,hh,nQ (by omega),DU _ _ hb0 hb1 (by omega)];simp,rfl⟩
      case measure=>simp [intOf];omega
     ·have h1:xs[t.toNat]?.getD 0≠1:=by simpa using ‹(xs[t.toNat]?.getD 0==1)=false›
      have hh:nN xs t=false:=by simp [nN,h1]
      go_roundw
      case rel=>exact ⟨k+1,_,by omega,by go_num,by rw [HS.out,hh];simp,rfl⟩
      case measure=>simp [intOf];omega
    ·go_wp2_with (go_at_call 116;refine (aN _ _ _ _).mono ?_;rintro e w' ⟨rfl,rfl⟩)
     go_roundw
     case rel=>exact ⟨k+1,_,by omega,by go_num,by
      rw [HS.out]
      have:nN xs t=false:=by
       have:=fT.1 (Bool.not_eq_true _ ▸ ht)
       simp only [nN,HX.out,Bool.and_eq_false_iff,decide_eq_false_iff_not];omega
      simp [this],rfl⟩
     case measure=>simp [intOf];omega
   ·have hkn:k=m:=by omega
    subst hkn
    go_wp2
    go_ret
    exact ⟨aP (by simp [lX,HY.out,hm4]),aZ (Below.refl _ _) _⟩
 ·have hne:decide ((m:Int)>40)=true:=by simp;omega
  go_enter Tryz.func84,Tryz.ntmps84
  go_wp2_with fail
  go_ret
  exact ⟨aP (by simp [lX,HY.out,hm4]),Below.refl _ _⟩
theorem zz (A:Option Addr) (n c:Nat) (xs:List Int) (B:Option Addr) (m d:Nat) (ys:List Int) (w:World) (hA:bH w A n xs) (hB:bH w B m ys) (hn:n<=1099511627776) (hm:m<=1099511627776) :
  Calls Tryz.prog 125 #[.slice A n c,.slice B m d] w fun e w'=>e = .returned (.int .i64 (lX xs ys))/\Below w.heap.size w w':=by
 obtain ⟨hx,hA⟩:=hA
 obtain ⟨hy,hB⟩:=hB
 have HX:=Hd hx
 have HY:=Hd hy
 clear hx hy
 by_cases hm4:m<=40
 ·have hm4':decide ((m:Int)<=40)=true:=by simp;omega
  go_enter Tryz.func125,Tryz.ntmps125
  go_wp2_with fail
  go_loopw [5,6] (fun v i wr=>∃k nq:Nat,k<=m/\i = .int .i64 k/\v = .int .i64 (kX xs ys k)/\wr=w.drewN nq) (fun _ i _=>m - (intOf i).toNat)
  case atStart=>exact ⟨0,0,Nat.zero_le _,rfl,rfl,rfl⟩
  case round =>
   obtain ⟨k,nq,hk,rfl,rfl,rfl⟩:=hrel
   obtain ⟨hb0,hb1⟩:=xS xs ys k
   by_cases hlt:k<m
   ·obtain ⟨b,o,rfl,hb,hc⟩:=hB (by omega)
    have hck:=hc k hlt
    have hi0:(0:Int)<=(k:Int):=by omega
    have hi1:(k:Int)<(m:Int):=by omega
    have hs:=kX.eq_2 xs ys k
    have HS:=Hd hs
    clear hc hs
    generalize ys[k]?.getD 0=t at *
    by_cases ht:inR t 0 ((n:Int) - 1)=true
    ·have htb:=ak.1 ht
     obtain ⟨b',o',rfl,hb',hc'⟩:=hA (by omega)
     have hct:=hc' t.toNat (by omega)
     clear hc'
     have hw0:wrap64 (2 ^ k)=2 ^ k:=nQ (by omega)
     have hw1:wrap64 (kX xs ys k+wrap64 (2 ^ k))=kX xs ys k+2 ^ k:=by
      rw [hw0]
      have hp:=jm (show k<=61+1 by omega)
      have hp':2 ^ k<4611686018427387904:=Nat.lt_of_lt_of_le (Nat.pow_lt_pow_right (by omega) (show k<41 by omega)) (by decide)
      rw [jo] at hb1 ⊢
      generalize 2 ^ k=p at *
      exact IntWalk.wrap64_in _ ⟨by omega,by omega⟩
     have HW:=Hd hw1
     clear hw0 hw1
     go_wp2_with fail
     ·have h1:xs[t.toNat]?.getD 0=1:=by simpa using ‹(xs[t.toNat]?.getD 0==1)=true›
      have hh:nN xs t=true:=by simp [nN,h1,HX.out];omega
      go_roundw
      case rel=>exact ⟨k+1,_,by omega,by go_num,by rw [HS.out,hh,HW.out];simp,rfl⟩
      case measure=>simp [intOf];omega
     ·have h1:xs[t.toNat]?.getD 0≠1:=by simpa using ‹(xs[t.toNat]?.getD 0==1)=false›
      have hh:nN xs t=false:=by simp [nN,h1]
      go_roundw
      case rel=>exact ⟨k+1,_,by omega,by go_num,by rw [HS.out,hh];simp,rfl⟩
      case measure=>simp [intOf];omega
    ·have hh:nN xs t=false:=by
      have:=fT.1 (Bool.not_eq_true _ ▸ ht)
      simp only [nN,HX.out,Bool.and_eq_false_iff,decide_eq_false_iff_not];omega
     rcases fT.1 (Bool.not_eq_true _ ▸ ht) with h|h
     ·have hd:decide (t≥0)=false:=by simp;omega
      clear hA
      go_wp2_with fail
      go_roundw
      case rel=>exact ⟨k+1,_,by omega,by go_num,by rw [HS.out,hh];simp,rfl⟩
      case measure=>simp [intOf];omega
     ·have hd:decide (t<(n:Int))=false:=by simp;omega
      have hd':decide (t≥0)=true:=by simp;omega
      clear hA
      go_wp2_with fail
      go_roundw
      case rel=>exact ⟨k+1,_,by omega,by go_num,by rw [HS.out,hh];simp,rfl⟩
      case measure=>simp [intOf];omega
   ·have hkn:k=m:=by omega
    subst hkn
    go_wp2
    go_ret
    exact ⟨aP (by simp [lX,HY.out,hm4]),aZ (Below.refl _ _) _⟩
 ·have hne:decide ((m:Int)<=40)=false:=by simp;omega
  by_cases h0:m=0
  ·omega
  have hp:(0:Int)<(m:Int):=by omega
  go_enter Tryz.func125,Tryz.ntmps125
  go_wp2_with fail
  refine wp_loop_rounds 1 ?_;rw [rounds_succ]
  go_wp2
  go_ret
  exact ⟨aP (by simp [lX,HY.out,hm4]),Below.refl _ _⟩
def j6 (c:Bool):Int:=if c=true then 1 else 0
def daP (b:Bd) (x:Ac):List Int:=fw b.dev (nM b.dev 0) x.A
def daB (b:Bd) (x:Ac):Bd :=
 if jT b x=true then
  (if x.kind=0 then spB b (daP b x) else if x.kind=2 then scB b else if x.kind=1 then upB b x.A x.B x.C else if x.kind=3 then beB b x.reg else if x.kind=4 then wrB b x.A x.words else if x.kind=5 then coB b x.A else abB b)
 else b
def daN (b:Bd) (x:Ac):Int :=
 if jT b x=true then
  (if x.kind=0 then lX (spN b (daP b x)) (nM b.dev 0) else if x.kind=2 then scN b 1+1000 * scN b 2 else if x.kind=1 then j6 (upO b x.A x.B x.C) else if x.kind=3 then j6 (beO b x.reg) else if x.kind=4 then j6 (wrO b x.A x.words) else if x.kind=5 then j6 (coO b x.A) else j6 (abO b))
 else -1
theorem Gy {M:Nat} (hM:432<=M) {b:Bd} (h:BdB M b) (x:Ac):BdB M (daB b x):=by
 unfold daB
 split
 ·split
  ·exact Hm h _
  ·split
   ·exact Ha h
   ·split
    ·exact G9 h _ _ _
    ·split
     ·exact He h _
     ·split
      ·exact Hf hM h _ _
      ·split
       ·exact Hl hM h _
       ·exact Hg hM h
 ·exact h
theorem keepS {W w':World} (h:Below W.heap.size W w'):Below W.heap.size W w'/\∀b o,b<W.heap.size→w'.cell? ⟨b,o,none⟩=W.cell? ⟨b,o,none⟩:=⟨h,(aO h).1⟩
def nD (W:World) (b:Bd) (v:Value) (p u:Value) (w':World):Prop:=∃(wx:World) (g:Nat) (R:Sl3) (lo hi:Nat),p = .pointer (some ⟨g,0,none⟩)/\u=v/\bC wx g b R/\W.heap.size<=g/\(g<lo∨hi<=g)/\W.heap.size<=lo/\hi<=wx.heap.size/\aG lo hi wx b R/\Below W.heap.size W wx/\wx=w'
theorem nD.drew {W w1:World} {b:Bd} {v p u:Value} (h:nD W b v p u w1):nD W b v p u w1.drew:=by
 obtain ⟨wx,g,R,lo,hi,h1,h2,h3,h4,h5,h6,h7,h8,h9,rfl⟩:=h
 exact ⟨wx.drew,g,R,lo,hi,h1,h2,h3,h4,h5,h6,h7,h8.drewd,h9.drew,rfl⟩
theorem nD.drews {W w1:World} {b:Bd} {v p u:Value} (h:nD W b v p u w1):nD W b v p u w1.drew.drew:=h.drew.drew
theorem IJ {W w1:World} {b:Bd} {R:Sl3} {v:Value} {lo hi:Nat} (hB:Below W.heap.size W w1) (hF:aG lo hi w1 b R) (hlo:W.heap.size<=lo) (hhi:hi<=w1.heap.size):nD W b v (.pointer (some ⟨w1.heap.size,0,none⟩)) v (w1.alloc (.cells (aD b R) 31)):=by
 have hb:=aB (Below.refl w1.heap.size w1) (.cells (aD b R) 31)
 exact ⟨_,w1.heap.size,R,lo,hi,rfl,rfl,aL _ _,hB.size,.inr hhi,hlo,Nat.le_trans hhi hb.size,hF.below hb,aB hB _,rfl⟩
theorem IK {W w0 w1:World} {b b0:Bd} {R R0:Sl3} {v:Value} {g hi:Nat} (hz:bC w0 g b0 R0) (hb:Below w0.heap.size w0 w1) (hF:aG w0.heap.size hi w1 b R) (hB:Below W.heap.size W w1) (hg:W.heap.size<=g) (hhi:hi<=w1.heap.size) (h0:W.heap.size<=w0.heap.size) :
  nD W b v (.pointer (some ⟨g,0,none⟩)) v (put12 w1 g b R):=by
 have hgl:=aX hz
 obtain ⟨h1,h2,h3,h4⟩:=bK (WF:=put12 w1 g b R) rfl (hz.tr hb) hB hg
 exact ⟨_,g,R,w0.heap.size,hi,rfl,rfl,h1,hg,.inl hgl,h0,Nat.le_trans hhi h2,hF.chg h4 (.inr (by omega)),h3,rfl⟩
theorem Below.put12 {a w:World} {lo g:Nat} {b:Bd} {s:Sl3} (h:Below lo a w) (hg:lo<=g):Below lo a (Go.Proofs.YtignkfhdkcgkgaaGreat.put12 w g b s):=by
 repeat (first|with_reducible exact h|with_reducible refine Below.setCell ?_ (by exact hg) _)
def Ac.zero:Ac:=⟨0,0,0,0,rZ,[]⟩
def gu (b:Bd) (xs:List Ac):Nat→Bd × List Int
 | 0=>(b,[])
 | k+1=>(daB (gu b xs k).1 (xs[k]?.getD Ac.zero),(gu b xs k).2++[daN (gu b xs k).1 (xs[k]?.getD Ac.zero)])
def raO (b:Bd) (xs:List Ac):Bool:=bkF b && decide (xs.length<=24)
def raB (b:Bd) (xs:List Ac):Bd:=if raO b xs=true then (gu b xs xs.length).1 else b
def raN (b:Bd) (xs:List Ac):List Int:=if raO b xs=true then (gu b xs xs.length).2 else []
theorem FR (b:Bd) (xs:List Ac) (k:Nat):(gu b xs k).2.length=k:=by
 induction k with
 | zero=>rfl
 | succ k ih=>simp [gu,ih]
theorem H7 {b:Bd} (h:bkF b=true):BdB 432 b:=by
 obtain ⟨hf,hs,-,h1,h2⟩:=dV h
 have hn:=dW hf
 refine ⟨qK (fun j _=>ib hf j) hn.2,?_,?_⟩
 ·have e1:=sK hs
  have e2:=hn.1
  have e3:=hn.2
  omega
 ·rcases Decidable.em (b.phase=1) with hp|hp
  ·have hs:=(pX (h1 hp)).1
   exact qK (fun j _=>ib hs j) (dW hs).2
  ·rw [(h2 hp).2]
   simp [af,bA]
theorem yU {b:Bd} (h:bkF b=true) (xs:List Ac) (k:Nat):BdB 432 (gu b xs k).1:=by
 induction k with
 | zero=>exact H7 h
 | succ k ih=>exact Gy (Nat.le_refl _) ih _
theorem FT {M:Nat} (hM:432<=M) {b:Bd} (h:BdB M b) (xs:List Ac):BdB M (raB b xs):=by
 unfold raB
 split
 ·rename_i ho
  unfold raO at ho
  rw [Bool.and_eq_true] at ho
  obtain ⟨h1,h2,h3⟩:=yU ho.1 xs xs.length
  exact ⟨Nat.le_trans h1 hM,Nat.le_trans h2 hM,Nat.le_trans h3 hM⟩
 ·exact h
theorem Gz (b:Bd) (xs:List Ac):(raN b xs).length<=24:=by
 unfold raN
 split
 ·rename_i ho
  unfold raO at ho
  rw [Bool.and_eq_true,decide_eq_true_eq] at ho
  rw [FR]
  exact ho.2
 ·exact Nat.zero_le _
def iM (w:World) (A:Option Addr) (n:Nat) (xs:List Ac):Prop:=xs.length=n/\(0<n→∃b o,A=some ⟨b,o,none⟩/\b<w.heap.size/\∀j,j<n→∃WA wn wc,
 w.cell? ⟨b,o+j * 9,none⟩=some (.int .i64 (xs[j]?.getD Ac.zero).kind)/\w.cell? ⟨b,o+j * 9+1,none⟩=some (.int .i64 (xs[j]?.getD Ac.zero).A)/\w.cell? ⟨b,o+j * 9+2,none⟩=some (.int .i64 (xs[j]?.getD Ac.zero).B)/\w.cell? ⟨b,o+j * 9+3,none⟩=some (.int .i64 (xs[j]?.getD Ac.zero).C) /\
 w.cell? ⟨b,o+j * 9+4,none⟩=some (.int .i64 (xs[j]?.getD Ac.zero).reg.X0)/\w.cell? ⟨b,o+j * 9+5,none⟩=some (.int .i64 (xs[j]?.getD Ac.zero).reg.Y0)/\w.cell? ⟨b,o+j * 9+6,none⟩=some (.int .i64 (xs[j]?.getD Ac.zero).reg.X1)/\w.cell? ⟨b,o+j * 9+7,none⟩=some (.int .i64 (xs[j]?.getD Ac.zero).reg.Y1) /\
 w.cell? ⟨b,o+j * 9+8,none⟩=some (.slice WA wn wc)/\bH w WA wn (xs[j]?.getD Ac.zero).words)
theorem iM.below {w w':World} {A:Option Addr} {n:Nat} {xs:List Ac} (h:iM w A n xs) (hb:Below w.heap.size w w'):iM w' A n xs:=by
 refine ⟨h.1,fun hn=>?_⟩
 obtain ⟨b,o,e,hlt,hc⟩:=h.2 hn
 refine ⟨b,o,e,eZ hb hlt,fun j hj=>?_⟩
 obtain ⟨WA,wn,wc,c0,c1,c2,c3,c4,c5,c6,c7,c8,hi⟩:=hc j hj
 have k:=fun (i:Nat)=>hb.cell (p:=⟨b,i,none⟩) hlt
 exact ⟨WA,wn,wc,(k _).trans c0,(k _).trans c1,(k _).trans c2,(k _).trans c3,(k _).trans c4,(k _).trans c5,(k _).trans c6,(k _).trans c7,(k _).trans c8,hi.below hb⟩
def dD (P:Nat→Prop) (lo hi:Nat) (w:World) (b:Bd) (s:Sl3):Prop:=∃S1 S2 S3,zJ w b s lo hi S1 S2 S3/\∀k,P k→¬S1 k/\¬S2 k/\¬S3 k
theorem dD.of {P:Nat→Prop} {lo hi:Nat} {w:World} {b:Bd} {s:Sl3} (h:aG lo hi w b s) (hp:∀k,P k→k<lo∨hi<=k):dD P lo hi w b s:=by
 obtain ⟨S1,S2,S3,q⟩:=h
 exact ⟨S1,S2,S3,q,fun k hk=>⟨fun x=>by have:=q.i1 k x;have:=hp k hk;omega,fun x=>by have:=q.i2 k x;have:=hp k hk;omega,fun x=>by have:=q.i3 k x;have:=hp k hk;omega⟩⟩
theorem dD.fp {P:Nat→Prop} {lo hi:Nat} {w:World} {b:Bd} {s:Sl3} (h:dD P lo hi w b s):aG lo hi w b s:=by
 obtain ⟨S1,S2,S3,q,-⟩:=h
 exact ⟨S1,S2,S3,q⟩
theorem dD.keep {P:Nat→Prop} {lo hi:Nat} {w w':World} {b:Bd} {s:Sl3} (h:dD P lo hi w b s) (hk:∀k,k<w.heap.size→lo<=k→k<hi→¬P k→w'.heap[k]?=w.heap[k]?):dD P lo hi w' b s:=by
 obtain ⟨S1,S2,S3,q,n⟩:=h
 refine ⟨S1,S2,S3,q.keep fun i hi' hs=>?_,n⟩
 rcases hs with x|x|x
 ·exact hk i hi' (q.i1 i x).1 (q.i1 i x).2 fun p=>(n i p).1 x
 ·exact hk i hi' (q.i2 i x).1 (q.i2 i x).2 fun p=>(n i p).2.1 x
 ·exact hk i hi' (q.i3 i x).1 (q.i3 i x).2 fun p=>(n i p).2.2 x
theorem dD.weak {P Q:Nat→Prop} {lo hi lo' hi':Nat} {w:World} {b:Bd} {s:Sl3} (h:dD P lo hi w b s) (e1:lo'<=lo) (e2:hi<=hi') (hq:∀k,Q k→P k∨k<lo∨hi<=k):dD Q lo' hi' w b s:=by
 obtain ⟨S1,S2,S3,q,n⟩:=h
 have j1:=q.i1
 have j2:=q.i2
 have j3:=q.i3
 refine ⟨S1,S2,S3,⟨q.frames.widen e1 e2,q.f1,q.state.more e1,q.f2,q.saved.widen e1 e2,q.f3,q.d12,q.d13,q.d23,fun i h=>by have:=j1 i h;omega,fun i h=>by have:=j2 i h;omega,fun i h=>by have:=j3 i h;omega⟩,fun k hk=>?_⟩
 rcases hq k hk with p|p
 ·exact n k p
 ·exact ⟨fun x=>by have:=j1 k x;omega,fun x=>by have:=j2 k x;omega,fun x=>by have:=j3 k x;omega⟩
theorem dD.same {P:Nat→Prop} {lo hi:Nat} {w w':World} {b:Bd} {s:Sl3} (h:dD P lo hi w b s) (hb:Below w.heap.size w w'):dD P lo hi w' b s:=h.keep fun k hk _ _ _=>hb.block k hk
def uq (g:Nat) (A:Option Addr) (k:Nat):Prop:=k=g∨∃a,A=some a/\a.block=k
theorem dD.setState {P:Nat→Prop} {lo hi base hi2:Nat} {w:World} {b b':Bd} {s:Sl3} {A:Option Addr} {n c:Nat} (h:aG lo hi w b s) (o:Own base w A n c b'.state) (l:gJ A base hi2) (hb:hi<=base) (hl:lo<=base) (hh:hi<=hi2) (e1:b'.frames=b.frames) (e3:b'.saved=b.saved)
  (hP:∀k,P k→(k<lo∨hi<=k)/\(k<base∨hi2<=k)):dD P lo hi2 w b' ⟨s.A1,s.n1,s.c1,A,n,c,s.A3,s.n3,s.c3⟩:=by
 obtain ⟨S1,S2,S3,k⟩:=h
 have j1:=k.i1
 have j3:=k.i3
 refine ⟨S1,fun i=>base<=i/\i<hi2,S3,⟨by rw [e1];exact k.frames.widen (Nat.le_refl _) hh,k.f1,o.more hl,l,by rw [e3];exact k.saved.widen (Nat.le_refl _) hh,k.f3,
  fun i x y=>by have:=j1 i x;omega,k.d13,fun i x y=>by have:=j3 i y;omega,fun i x=>by have:=j1 i x;omega,fun i x=>by omega,fun i x=>by have:=j3 i x;omega⟩,fun i hi=>?_⟩
 have hp:=hP i hi
 exact ⟨fun x=>by have:=j1 i x;omega,fun x=>by omega,fun x=>by have:=j3 i x;omega⟩
theorem dD.rd {P:Nat→Prop} {lo hi:Nat} {w:World} {b:Bd} {s:Sl3} (h:dD P lo hi w b s):bV w b s:=h.fp.rd
theorem IL {W w1:World} {b:Bd} {R:Sl3} {v:Value} {hi:Nat} (hB:Below W.heap.size W w1) (hF:aG (W.alloc (.cells z12 31)).drew.heap.size hi w1 b R) (hb:Below (W.alloc (.cells z12 31)).drew.heap.size (W.alloc (.cells z12 31)).drew w1) (hhi:hi<=w1.heap.size) :
  nD W b v (.pointer (some ⟨W.heap.size,0,none⟩)) v (put12 w1 W.heap.size b R) :=
 IK (b0:=zBd) (R0:=zSl) (w0:=(W.alloc (.cells z12 31)).drew) (aL _ _) hb hF hB (Nat.le_refl _) hhi (by show _<=(World.alloc _ _).heap.size;simp)
def Two (g1 g2 k:Nat):Prop:=k=g1∨k=g2
end Go.Proofs.YtignkfhdkcgkgaaGreat
