/- BitsAt: the program's and the reference's compute one number. RunTiles: the outputs at tiles of all cycles: the program. -/
import Derived.Lib.SliceRun
import Derived.Test.YtignkfhdkcgkgaaGreatCw
import Derived.Test.YtignkfhdkcgkgaaGreatHar
import Derived.Test.YtignkfhdkcgkgaaGreatRun
namespace Go.Proofs.YtignkfhdkcgkgaaGreat
set_option maxRecDepth 100000
open Go.RowKit

def hitAt (o:List Int) (t:Int):Bool:=decide (0≤t) && (decide (t<o.length) && (o[t.toNat]?.getD 0==1))
def bitsTo (o ts:List Int):Nat→Int
 | 0=>0
 | k+1=>bitsTo o ts k+if hitAt o (ts[k]?.getD 0) then 2 ^ k else 0
def bitsAt (o ts:List Int):Int:=if ts.length≤40 then bitsTo o ts ts.length else 0
theorem bitsTo_bd (o ts:List Int) (k:Nat):0≤bitsTo o ts k∧bitsTo o ts k<2 ^ k:=by
 induction k with
 | zero=>simp [bitsTo]
 | succ k ih =>
  have hp:(2:Int) ^ (k+1)=2 ^ k+2 ^ k:=by rw [Int.pow_succ];omega
  have:(0:Int)<2 ^ k:=Int.pow_pos (by omega)
  unfold bitsTo
  split <;> omega

set_option maxHeartbeats 400000 in
theorem bitsAt_any (A:Option Addr) (n c:Nat) (xs:List Int) (B:Option Addr) (m d:Nat) (ys:List Int) (w:World) (hA:Ints w A n xs) (hB:Ints w B m ys) (hn:n≤1099511627776) (hm:m≤1099511627776) :
  Calls Tryz.prog 84 #[.slice A n c,.slice B m d] w fun e w'=>e = .returned (.int .i64 (bitsAt xs ys))∧Below w.heap.size w w':=by
 obtain ⟨hx,hA⟩:=hA
 obtain ⟨hy,hB⟩:=hB
 have HX:=Lib.hid hx
 have HY:=Lib.hid hy
 clear hx hy
 by_cases hm4:m≤40
 ·go_enter Tryz.func84,Tryz.ntmps84
  go_wp2_with fail
  go_loopw [5,13] (fun v i wr=>∃k nq:Nat,k≤m∧i = .int .i64 k∧v = .int .i64 (bitsTo xs ys k)∧wr=w.drewN nq) (fun _ i _=>m - (intOf i).toNat)
  case atStart=>exact ⟨0,0,Nat.zero_le _,rfl,rfl,rfl⟩
  case round =>
   obtain ⟨k,nq,hk,rfl,rfl,rfl⟩:=hrel
   obtain ⟨hb0,hb1⟩:=bitsTo_bd xs ys k
   by_cases hlt:k<m
   ·obtain ⟨b,o,rfl,hb,hc⟩:=hB (by omega)
    have hck:=hc k hlt
    have hi0:(0:Int)≤(k:Int):=by omega
    have hi1:(k:Int)<(m:Int):=by omega
    have hs:=bitsTo.eq_2 xs ys k
    have HS:=Lib.hid hs
    clear hc hs
    generalize ys[k]?.getD 0=t at *
    by_cases ht:inR t 0 ((n:Int) - 1)=true
    ·have htb:=inR_iff.1 ht
     obtain ⟨b',o',rfl,hb',hc'⟩:=hA (by omega)
     have hct:=hc' t.toNat (by omega)
     clear hc'
     go_wp2_with (go_at_call 116;refine (inRange_any _ _ _ _).mono ?_;rintro e w' ⟨rfl,rfl⟩)
     ·have h1:xs[t.toNat]?.getD 0=1:=by simpa using ‹(xs[t.toNat]?.getD 0==1)=true›
      have hh:hitAt xs t=true:=by simp [hitAt,h1,HX.out];omega
      go_roundw
      case rel=>exact ⟨k+1,_,by omega,by go_num,by
       rw [HS.out,hh,wrap_pow (by omega),i64_or_pow _ _ hb0 hb1 (by omega)];simp,rfl⟩
      case measure=>simp [intOf];omega
     ·have h1:xs[t.toNat]?.getD 0≠1:=by simpa using ‹(xs[t.toNat]?.getD 0==1)=false›
      have hh:hitAt xs t=false:=by simp [hitAt,h1]
      go_roundw
      case rel=>exact ⟨k+1,_,by omega,by go_num,by rw [HS.out,hh];simp,rfl⟩
      case measure=>simp [intOf];omega
    ·go_wp2_with (go_at_call 116;refine (inRange_any _ _ _ _).mono ?_;rintro e w' ⟨rfl,rfl⟩)
     go_roundw
     case rel=>exact ⟨k+1,_,by omega,by go_num,by
      rw [HS.out]
      have:hitAt xs t=false:=by
       have:=inR_false.1 (Bool.not_eq_true _ ▸ ht)
       simp only [hitAt,HX.out,Bool.and_eq_false_iff,decide_eq_false_iff_not];omega
      simp [this],rfl⟩
     case measure=>simp [intOf];omega
   ·have hkn:k=m:=by omega
    subst hkn
    go_wp2
    go_ret
    exact ⟨ret_int (by simp [bitsAt,HY.out,hm4]),below_drewN (Below.refl _ _) _⟩
 ·have hne:decide ((m:Int)>40)=true:=by simp;omega
  go_enter Tryz.func84,Tryz.ntmps84
  go_wp2_with fail
  go_ret
  exact ⟨ret_int (by simp [bitsAt,HY.out,hm4]),Below.refl _ _⟩

end Go.Proofs.YtignkfhdkcgkgaaGreat

namespace Go.Proofs.YtignkfhdkcgkgaaGreat
set_option maxRecDepth 100000
open Go.RowKit

theorem and1_01 (x:Int):0≤bits .and .i64 x 1∧bits .and .i64 x 1≤1:=by
 have h:bits .and .i64 x 1=(((BitVec.ofInt 64 x).toNat % 2:Nat):Int):=by
  show IntKind.i64.wrap ((BitVec.ofInt 64 x &&& BitVec.ofInt 64 (1:Int)).toNat:Int)=_
  rw [BitVec.toNat_and,show (BitVec.ofInt 64 (1:Int)).toNat=1 by decide,Nat.and_one_is_mod,IntKind.wrap_i64]
  omega
 rw [h]
 omega
theorem padsTo_01 (N:Nat) (ts:List Int) (b:Int) (k j:Nat):0≤(padsTo N ts b k)[j]?.getD 0∧(padsTo N ts b k)[j]?.getD 0≤1:=by
 induction k with
 | zero =>
  rw [padsTo,List.getElem?_replicate]
  split <;> simp
 | succ k ih =>
  rw [padsTo,getD_set]
  split
  ·exact and1_01 _
  ·exact ih
/-- Which tiles are valid inputs: this does not depend on the bits. -/
def padsIn (d:Dev) (ts:List Int):Prop:=devOk d=true∧ts.length≤40∧∀j,j<ts.length→inR (ts[j]?.getD 0) 0 ((tiles d:Int) - 1)=true
theorem padsFor_yes {d:Dev} {ts:List Int} (h:padsIn d ts) (b:Int):padsFor d ts b=padsTo (tiles d) ts b ts.length:=if_pos h
theorem padsFor_not {d:Dev} {ts:List Int} (h:¬padsIn d ts) (b:Int):padsFor d ts b=[]:=if_neg h
theorem padsFor_ok {d:Dev} {ts:List Int} (h:padsIn d ts) (b:Int):padsOk d (padsFor d ts b)=true:=by
 rw [padsFor_yes h]
 unfold padsOk wordsOk
 rw [Bool.and_eq_true,decide_eq_true_eq,padsTo_length]
 exact ⟨(tiles_eq h.1).1.symm,allIn_good fun j _=>inR_iff.2 (padsTo_01 _ _ _ _ _)⟩
theorem padsFor_ne {d:Dev} {ts:List Int} (h:padsIn d ts) (b:Int):padsFor d ts b≠[]:=by
 rw [padsFor_yes h]
 intro e
 have:=congrArg List.length e
 rw [padsTo_length] at this
 have:=(tiles_eq h.1).2
 simp at *
 omega
def rtOk (d:Dev) (fs:List (List Int)) (ti us ins:List Int):Prop:=framesOk d fs=true∧ins.length≤16∧padsIn d ti∧us.length≤40
instance (d:Dev) (ts:List Int):Decidable (padsIn d ts):=by unfold padsIn;exact inferInstance
instance (d:Dev) (fs:List (List Int)) (ti us ins:List Int):Decidable (rtOk d fs ti us ins):=by unfold rtOk;exact inferInstance
def rtF (d:Dev) (fs:List (List Int)) (ti us ins:List Int):List Int:=if rtOk d fs ti us ins then (runO d fs (ins.map (padsFor d ti)) ins.length).map (fun o=>bitsAt o us) else []
theorem rtF_good {d:Dev} {fs:List (List Int)} {ti us ins:List Int} (h:rtOk d fs ti us ins):rtF d fs ti us ins=(runO d fs (ins.map (padsFor d ti)) ins.length).map (fun o=>bitsAt o us):=if_pos h
theorem rtF_bad {d:Dev} {fs:List (List Int)} {ti us ins:List Int} (h:¬rtOk d fs ti us ins):rtF d fs ti us ins=[]:=if_neg h
theorem rtF_le (d:Dev) (fs:List (List Int)) (ti us ins:List Int):(rtF d fs ti us ins).length≤16:=by
 by_cases h:rtOk d fs ti us ins
 ·rw [rtF_good h,List.length_map,runO_length];exact h.2.1
 ·rw [rtF_bad h];decide
theorem map_take_snoc {α β:Type} {f:α→β} {xs:List α} {k:Nat} {x:α} (h:xs[k]?=some x):(xs.take (k+1)).map f=(xs.take k).map f++[f x]:=by
 rw [List.take_add_one,h]
 simp
theorem getD_int {xs:List Int} {k:Nat} (h:k<xs.length):xs[k]?=some (xs[k]?.getD 0):=by rw [List.getElem?_eq_getElem h];rfl
theorem getD_row {xs:List (List Int)} {k:Nat} (h:k<xs.length):xs[k]?=some (xs[k]?.getD []):=by rw [List.getElem?_eq_getElem h];rfl

set_option maxHeartbeats 1000000 in
theorem padsForN_any (d:Dev) (A:Option Addr) (n c:Nat) (ts:List Int) (b:Int) (w:World) (hA:Ints w A n ts) (hn:n≤16777216) :
  Calls Tryz.prog 82 #[.agg #[.int .i64 d.W,.int .i64 d.H,.int .i64 d.T,.int .i64 d.R],.slice A n c,.int .i64 b] w fun e w'=>∃A' m c',e = .returned (.slice A' m c')∧Own w.heap.size w' A' m c' (padsFor d ts b)∧(padsFor d ts b=[]→A'=none)∧Below w.heap.size w w':=by
 have HI:=Lib.hid hA
 have hX:=hA.1
 have HX:=Lib.hid hX
 clear hA hX
 go_enter Tryz.func82,Tryz.ntmps82
 go_wp2_with fail
 refine (deviceOk_any d _).mono ?_
 rintro e w1 ⟨rfl,b1⟩
 have hs1:=b1.size
 simp only [World.size_alloc] at hs1
 obtain ⟨hcc,hff⟩:=bcell b1
 have B1:=Lib.hid (below_tr (below_new (Below.refl _ _) _) b1)
 clear b1
 cases hd:devOk d with
 | false =>
  have HD:=Lib.hid hd
  clear hd
  go_wp2_with fail
  go_ret
  exact ⟨none,0,0,rfl,by rw [padsFor,if_neg (by simp [HD.out])];exact Own.nil,fun _=>rfl,B1.out⟩
 | true =>
  obtain ⟨hN,hN1,hN2⟩:=tiles_eq hd
  have HD:=Lib.hid hd
  clear hd
  by_cases h40:n≤40
  ·have d40:decide ((n:Int)>40)=false:=by simp;omega
   obtain ⟨i0,hi,hz0,hz1,hz2⟩:=info_parts int_info
   have hmk:=fun W=>run_make_rowN (P:=Tryz.prog) 27 3 i0 _ Tryz.underlying27 hi hz0 .i64 .i64 (tiles d) (tiles d) (Nat.le_refl _) (by rw [hz2];omega) (by omega) W
   rw [hz1,Nat.mul_one,show (Value.int .i64 0).cells=#[Value.int .i64 0] from rfl,arr_made] at hmk
   clear hi hz0 hz1 hz2
   go_wp2_with fail
   have hI:=HI.out.below B1.out
   obtain ⟨_,hA⟩:=hI
   generalize hT:tiles d=N at *
   have HT:=Lib.hid hT
   clear hT hN hcc hff hmk
   go_loopw [26] (fun i wr=>∃k:Nat,k≤n∧i = .int .i64 k∧wr=w1.alloc (.cells (arr (padsTo N ts b k)) 3)∧∀j,j<k→inR (ts[j]?.getD 0) 0 ((N:Int) - 1)=true) (fun i _=>n - (intOf i).toNat)
   case atStart=>exact ⟨0,Nat.zero_le _,rfl,rfl,by intro j hj;omega⟩
   case round =>
    obtain ⟨k,hk,rfl,rfl,hall⟩:=hrel
    have HALL:=Lib.hid hall
    clear hall
    by_cases hlt:k<n
    ·obtain ⟨bb,o,rfl,hb,hc⟩:=hA (by omega)
     have hck:=hc k hlt
     have hs:=padsTo.eq_2 N ts b k
     have HS:=Lib.hid hs
     have HR:Hid (inR (ts[k]?.getD 0) 0 ((N:Int) - 1)=true→∀j,j<k+1→inR (ts[j]?.getD 0) 0 ((N:Int) - 1)=true):=by
      intro h j hj
      rcases Nat.lt_or_ge j k with h1|h1
      ·exact HALL.out j h1
      ·obtain rfl:j=k:=by omega
       exact h
     have HF:Hid (inR (ts[k]?.getD 0) 0 ((N:Int) - 1)=false→padsFor d ts b=[]):=by
      intro h
      rw [padsFor,if_neg]
      rintro ⟨_,_,h3⟩
      have:=h3 k (by rw [HX.out];exact hlt)
      rw [HT.out,h] at this
      cases this
     clear hc hs
     have hl:=padsTo_length N ts b k
     have HL:=Lib.hid hl
     generalize padsTo N ts b k=ps at *
     generalize ts[k]?.getD 0=t at *
     by_cases ht:inR t 0 ((N:Int) - 1)=true
     ·have htb:=inR_iff.1 ht
      have hlt':t.toNat<ps.length:=by omega
      have hg:=arr_get hlt'
      have hz:t.toNat<(arr ps).size:=by rw [arr_size];exact hlt'
      have hi0:(0:Int)≤(k:Int):=by omega
      have hi1:(k:Int)≤63:=by omega
      clear hl
      go_wp2_with (go_at_call 116;refine (inRange_any _ _ _ _).mono ?_;rintro e w' ⟨rfl,rfl⟩)
      go_roundw
      case rel=>exact ⟨k+1,by omega,by go_num,by rw [arr_set,HS.out],HR.out ht⟩
      case measure=>simp [intOf];omega
     ·have htf:=Bool.not_eq_true _ ▸ ht
      clear hl
      go_wp2_with (go_at_call 116;refine (inRange_any _ _ _ _).mono ?_;rintro e w' ⟨rfl,rfl⟩)
      go_ret
      exact ⟨none,0,0,rfl,by rw [HF.out htf];exact Own.nil,fun _=>rfl,below_new B1.out _⟩
    ·have hkn:k=n:=by omega
     subst hkn
     go_wp2
     go_ret
     have he:padsFor d ts b=padsTo N ts b k:=by rw [padsFor,if_pos ⟨HD.out,by rw [HX.out];exact h40,by rw [HX.out,HT.out];exact HALL.out⟩,HX.out,HT.out]
     refine ⟨_,_,_,rfl,?_,fun h=>?_,below_new B1.out _⟩
     ·rw [he]
      exact Own.arr (heap_new _ _) (by omega) (by unfold maxLen;omega) (padsTo_length _ _ _ _)
     ·rw [he] at h;have:=congrArg List.length h;rw [padsTo_length] at this;simp at this;omega
  ·have d40:decide ((n:Int)>40)=true:=by simp;omega
   clear hN
   go_wp2_with fail
   go_ret
   exact ⟨none,0,0,rfl,by rw [padsFor,if_neg (by simp only [HX.out];omega)];exact Own.nil,fun _=>rfl,B1.out⟩

set_option maxHeartbeats 4000000 in
theorem prunTiles_any (d:Dev) (A:Option Addr) (m c:Nat) (fs:List (List Int)) (TA:Option Addr) (tn tc:Nat) (ti:List Int) (UA:Option Addr) (un uc:Nat) (us:List Int) (IA:Option Addr) (inn ic:Nat) (ins:List Int) (w:World)
  (hA:Rows2 w A m fs) (hT:Ints w TA tn ti) (hU:Ints w UA un us) (hI:Ints w IA inn ins) (hz:size2 fs≤1099511627776) (ht:tn≤16777216) (hu:un≤16777216) (hi:inn≤16777216) :
  Calls Tryz.prog 32 #[.agg #[.int .i64 d.W,.int .i64 d.H,.int .i64 d.T,.int .i64 d.R],.slice A m c,.slice TA tn tc,.slice UA un uc,.slice IA inn ic] w fun e w'=>∃A' n' c',e = .returned (.slice A' n' c')∧Own w.heap.size w' A' n' c' (rtF d fs ti us ins)∧Below w.heap.size w w':=by
 have HB0:=Lib.hid (below_new (Below.refl w.heap.size w) (.cells #[.int .i64 d.W,.int .i64 d.H,.int .i64 d.T,.int .i64 d.R] 25))
 have HI:=Lib.hid hA
 have HTI:=Lib.hid hT
 have HU:=Lib.hid hU
 have HIN:=Lib.hid hI
 have HXT:=Lib.hid hT.1
 have HXU:=Lib.hid hU.1
 have HXI:=Lib.hid hI.1
 clear hA hT hU hI
 go_enter Tryz.func32,Tryz.ntmps32
 go_wp2_with fail
 refine (framesOk_any d A m c fs _ (HI.out.below HB0.out) hz).mono ?_
 rintro e w1 ⟨rfl,b1⟩
 have hs1:=b1.size
 simp only [World.size_alloc] at hs1
 have D1:=Lib.hid b1
 have HW1:=Lib.hid (below_tr HB0.out b1)
 obtain ⟨q0,q1,q2,q3⟩:=keep4 b1 (by simp) (box4 w d)
 have hww:w.heap.size<w1.heap.size:=by omega
 clear b1
 cases hf:framesOk d fs with
 | false =>
  have HF:Hid (rtF d fs ti us ins=[]):=rtF_bad (by rintro ⟨h,_⟩;rw [hf] at h;cases h)
  clear hf
  go_wp2_with fail
  go_ret
  exact ⟨none,0,0,rfl,by rw [HF.out];exact Own.nil,HW1.out⟩
 | true =>
  have HFO:=Lib.hid hf
  clear hf
  by_cases hl:inn≤16
  ·have hd1:decide ((inn:Int)>16)=false:=by simp;omega
   go_wp2_with fail
   refine (padsForN_any d TA tn tc ti 0 _ (HTI.out.below HW1.out) ht).mono ?_
   rintro e w2 ⟨PA,pn,pc,rfl,o2,hnil,b2⟩
   have D2:=Lib.hid (below_tr D1.out b2)
   have HW2:=Lib.hid (below_tr HW1.out b2)
   have hs2:=b2.size
   obtain ⟨q0,q1,q2,q3⟩:=keep4 b2 hww ⟨q0,q1,q2,q3⟩
   by_cases hp:padsIn d ti
   ·have HPI:=Lib.hid hp
    have hne:=padsFor_ne hp 0
    have hpn:0<pn:=by
     rw [←o2.len]
     exact List.length_pos_iff.2 hne
    obtain ⟨gp,curp,rfl,-⟩:=o2.block hpn
    have hq:∀W,(binOp .eql 27 (.slice (some ⟨gp,0,none⟩) pn pc) (.slice none 0 0)).run Tryz.prog W = .ok (.bool false) W:=fun W=>Lib.run_eql_slice_nil W 27 3 _ _ _ _ _ Tryz.underlying27
    clear b2 o2 hnil hp hne
    by_cases hul:un≤40
    ·have hd2:decide ((un:Int)>40)=false:=by simp;omega
     have HOK:Hid (rtF d fs ti us ins=(runO d fs (ins.map (padsFor d ti)) inn).map (fun o=>bitsAt o us)):=by
      have h:=rtF_good (d:=d) (fs:=fs) (ti:=ti) (us:=us) (ins:=ins) ⟨HFO.out,by rw [HXI.out];exact hl,HPI.out,by rw [HXU.out];exact hul⟩
      rw [HXI.out] at h
      exact h
     go_wp2_with fail
     clear q0 q1 q2 q3
     go_loopw [11,39] (fun v i wr=>∃(k:Nat) (A':Option Addr) (c':Nat),k≤inn∧i = .int .i64 k∧v = .slice A' k c'∧Own2 w2.heap.size wr.heap.size wr A' k c' ((ins.take k).map (padsFor d ti))∧Below w2.heap.size w2 wr) (fun _ i _=>inn - (intOf i).toNat)
     case atStart=>exact ⟨0,none,0,Nat.zero_le _,rfl,rfl,by simpa using Own2.nil,Below.refl _ _⟩
     case round =>
      obtain ⟨k,A',c',hk,rfl,rfl,hoo,hb⟩:=hrel
      have HOO:=Lib.hid hoo
      have HB:=Lib.hid hb
      have hsr:=hb.size
      have HW:=Lib.hid (below_tr HW2.out hb)
      obtain ⟨q0,q1,q2,q3⟩:=keep4 (below_tr D2.out hb) (by simp) (box4 w d)
      have hwr:w.heap.size<wr.heap.size:=by omega
      clear hoo hb
      by_cases hlt:k<inn
      ·obtain ⟨bi,oi,rfl,hbi,hci⟩:=HIN.out.2 (by omega)
       have hck:=hci k hlt
       rw [←HW.out.cell (p:=⟨bi,oi+k,none⟩) hbi] at hck
       have HSN:=Lib.hid (map_take_snoc (f:=padsFor d ti) (getD_int (k:=k) (xs:=ins) (by rw [HXI.out];exact hlt)))
       clear hci
       generalize ins[k]?.getD 0=x at *
       go_wp2_with fail
       refine (padsFor_any d TA tn tc ti x _ (HTI.out.below HW.out) ht).mono ?_
       rintro e w5 ⟨P5,p5,c5,rfl,o5,b5⟩
       have O5:=Lib.hid o5
       have B5:=Lib.hid b5
       have hs5:=b5.size
       clear o5 b5 q0 q1 q2 q3
       go_wp2_with (at_builtin;refine wpList_push2 rfl _ _ rfl w2.heap.size wr.heap.size A' k c' ((ins.take k).map (padsFor d ti)) wr.heap.size P5 p5 c5 _ rfl (HOO.out.below B5.out) O5.out rfl (by omega) (Nat.le_refl _) (by omega) (by omega) (by omega) (below_tr HB.out B5.out) ?_;rintro g6 cap w6 o6 b6)
       go_roundw
       case rel=>exact ⟨k+1,_,_,by omega,by go_num,rfl,by rw [HSN.out];exact o6,b6⟩
       case measure=>simp [intOf];omega
      ·have hkn:inn=k:=by omega
       subst hkn
       have hfull:(ins.take inn).map (padsFor d ti)=ins.map (padsFor d ti):=by rw [List.take_of_length_le (by rw [HXI.out];exact Nat.le_refl _)]
       have HP3:=HOO.out.rd
       rw [hfull] at HP3
       have HPR:=Lib.hid HP3
       have HML:Hid ((ins.map (padsFor d ti)).length=inn):=by show _=_;rw [List.length_map,HXI.out]
       clear HP3 hfull hk hlt
       go_wp2_with fail
       refine (emuRunI_any d A m c fs A' inn c' (ins.map (padsFor d ti)) _ (HI.out.below HW.out) HPR.out HFO.out hl (fun j hj=>by rw [List.getElem?_map,getD_int (k:=j) (xs:=ins) (by rw [HXI.out];exact hj)];exact padsFor_ok HPI.out _)).mono ?_
       rintro e w6 ⟨R6,c6,rfl,o6,b6⟩
       have O6:=Lib.hid o6.rd
       have HW6:=Lib.hid (below_tr HW.out b6)
       have hs6:=b6.size
       have HRL:=Lib.hid (runO_length d fs (ins.map (padsFor d ti)) inn)
       have HRS:=Lib.hid (runO_size (pads:=ins.map (padsFor d ti)) HFO.out inn)
       clear o6 b6 q0 q1 q2 q3
       generalize runO d fs (ins.map (padsFor d ti)) inn=rows at *
       go_wp2_with fail
       go_loopw [14,56] (fun v i wr=>∃(k:Nat) (A':Option Addr) (c':Nat),k≤inn∧i = .int .i64 k∧v = .slice A' k c'∧Own w6.heap.size wr A' k c' ((rows.take k).map (fun o=>bitsAt o us))∧Below w6.heap.size w6 wr) (fun _ i _=>inn - (intOf i).toNat)
       case atStart=>exact ⟨0,none,0,Nat.zero_le _,rfl,rfl,by simpa using Own.nil,Below.refl _ _⟩
       case round =>
        obtain ⟨k,A7,c7,hk,rfl,rfl,hoo,hb⟩:=hrel
        have HO7:=Lib.hid hoo
        have HB7:=Lib.hid hb
        have hsr7:=hb.size
        have HW7:=Lib.hid (below_tr HW6.out hb)
        clear hoo hb
        by_cases hlt:k<inn
        ·obtain ⟨b,o,rfl,hb,hc⟩:=O6.out.2 (by omega)
         obtain ⟨A1,m1,c1,hck,hI1⟩:=hc k hlt
         rw [←HB7.out.cell (p:=⟨b,o+k,none⟩) hb] at hck
         have J1:=Lib.hid (hI1.below HB7.out)
         have hm1:m1≤1099511627776:=by
          have h1:=(size2_bd HRL.out (M:=1099511627776) (by have:=HRS.out;omega)).2 k
          have:=hI1.1
          omega
         have HSN:=Lib.hid (map_take_snoc (f:=fun o=>bitsAt o us) (getD_row (k:=k) (xs:=rows) (by rw [HRL.out];exact hlt)))
         clear hc hI1
         generalize rows[k]?.getD []=row at *
         go_wp2_with fail
         refine (bitsAt_any A1 m1 c1 row UA un uc us _ J1.out (HU.out.below HW7.out) hm1 (by omega)).mono ?_
         rintro e w8 ⟨rfl,b8⟩
         have B8:=Lib.hid b8
         have hs8:=b8.size
         clear b8
         go_wp2_with (at_builtin;refine wpList_push rfl _ _ rfl w6.heap.size A7 k c7 ((rows.take k).map (fun o=>bitsAt o us)) _ rfl (HO7.out.below B8.out) rfl (by omega) (by omega) (below_tr HB7.out B8.out) ?_;rintro g9 cap w9 o9 b9 - -)
         go_roundw
         case rel=>exact ⟨k+1,_,_,by omega,by go_num,rfl,by rw [HSN.out];exact o9,b9⟩
         case measure=>simp [intOf];omega
        ·have hkn:inn=k:=by omega
         subst hkn
         have hfull:(rows.take inn).map (fun o=>bitsAt o us)=rows.map (fun o=>bitsAt o us):=by rw [List.take_of_length_le (by rw [HRL.out];exact Nat.le_refl _)]
         have HR9:=HO7.out
         rw [hfull,←HOK.out] at HR9
         go_wp2_with fail
         go_ret
         exact ⟨_,_,_,rfl,HR9.more HW6.out.size,HW7.out⟩
    ·have hd2:decide ((un:Int)>40)=true:=by simp;omega
     have HF:Hid (rtF d fs ti us ins=[]):=rtF_bad (by rintro ⟨_,_,_,h⟩;rw [HXU.out] at h;omega)
     go_wp2_with fail
     go_ret
     exact ⟨none,0,0,rfl,by rw [HF.out];exact Own.nil,HW2.out⟩
   ·have hna:=hnil (padsFor_not hp 0)
    have HF:Hid (rtF d fs ti us ins=[]):=rtF_bad (fun h=>hp h.2.2.1)
    subst hna
    have hq:∀W,(binOp .eql 27 (.slice none pn pc) (.slice none 0 0)).run Tryz.prog W = .ok (.bool true) W:=fun W=>Lib.run_eql_slice_nil W 27 3 _ _ _ _ _ Tryz.underlying27
    clear b2 o2 hnil hp
    go_wp2_with fail
    go_ret
    exact ⟨none,0,0,rfl,by rw [HF.out];exact Own.nil,HW2.out⟩
  ·have hd1:decide ((inn:Int)>16)=true:=by simp;omega
   have HF:Hid (rtF d fs ti us ins=[]):=rtF_bad (by rintro ⟨_,h,_⟩;rw [HXI.out] at h;omega)
   go_wp2_with fail
   go_ret
   exact ⟨none,0,0,rfl,by rw [HF.out];exact Own.nil,HW1.out⟩
end Go.Proofs.YtignkfhdkcgkgaaGreat
