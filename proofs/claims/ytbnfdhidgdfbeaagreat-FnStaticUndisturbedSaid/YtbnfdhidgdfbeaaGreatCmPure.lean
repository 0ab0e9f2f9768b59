/- The checksum sees a changed low bit of one word, and no changed high bit; plain. Committing a region: plain lemmas. -/
import Derived.Test.YtbnfdhidgdfbeaaGreatData
import Derived.Test.YtbnfdhidgdfbeaaGreatDrwT
import Derived.Test.YtbnfdhidgdfbeaaGreatRbPure
namespace Go.Proofs.YtbnfdhidgdfbeaaGreat
set_option maxRecDepth 100000
open Go.RowKit

def lo16 (x:Int):Nat:=(BitVec.ofInt 64 x).toNat % 65536
theorem lo16_lt (x:Int):lo16 x<65536:=Nat.mod_lt _ (by decide)
theorem and_lo16 (x:Int):bits .and .i64 x 65535=(lo16 x:Int):=by
 have h:=lo16_lt x
 show IntKind.i64.wrap ((BitVec.ofInt 64 x &&& BitVec.ofInt 64 65535).toNat:Int)=_
 have e:(BitVec.ofInt 64 x &&& BitVec.ofInt 64 65535).toNat=lo16 x:=by
  rw [BitVec.toNat_and]
  exact Nat.and_two_pow_sub_one_eq_mod _ 16
 rw [e,IntKind.wrap_i64]
 omega
def stepN (n:Nat):Nat:=if n % 2=1 then n / 2 ^^^ 33800 else n / 2
theorem stepN_lt {n:Nat} (h:n<65536):stepN n<65536:=by
 unfold stepN
 split
 ·exact Nat.xor_lt_two_pow (n:=16) (by omega) (by decide)
 ·omega
theorem csBit_nat {n:Nat} (h:n<65536):csBit (n:Int)=(stepN n:Int):=by
 unfold csBit stepN
 rw [and_one_nat n (by omega)]
 by_cases hp:n % 2=1
 ·rw [if_pos hp,if_pos (by rw [hp];rfl)]
  exact i64_xor_nat (n / 2) 33800 (by omega) (by omega)
 ·rw [if_neg hp,if_neg (by simp;omega)]
  rfl
def iterN:Nat→Nat→Nat
 | 0,n=>n
 | k+1,n=>stepN (iterN k n)
theorem iterN_lt {n:Nat} (h:n<65536) (k:Nat):iterN k n<65536:=by
 induction k with
 | zero=>exact h
 | succ k ih=>exact stepN_lt ih
theorem csIter_nat {n:Nat} (h:n<65536) (k:Nat):csIter k (n:Int)=(iterN k n:Int):=by
 induction k with
 | zero=>rfl
 | succ k ih=>rw [csIter,ih,csBit_nat (iterN_lt h k),iterN]
def wordN (n x:Nat):Nat:=iterN 16 (n ^^^ x)
theorem wordN_lt {n x:Nat} (h:n<65536) (hx:x<65536):wordN n x<65536:=iterN_lt (Nat.xor_lt_two_pow (n:=16) h hx) 16
theorem csWord_nat {n:Nat} (h:n<65536) (x:Int):csWord (n:Int) x=(wordN n (lo16 x):Int):=by
 have hx:=lo16_lt x
 rw [csWord,and_lo16,i64_xor_nat n (lo16 x) (by omega) (by omega)]
 exact csIter_nat (Nat.xor_lt_two_pow (n:=16) h hx) 16
attribute [local irreducible] wordN lo16 csWord
def sumN:Nat→List Int→Nat
 | n,[]=>n
 | n,x :: xs=>sumN (wordN n (lo16 x)) xs
theorem csum_nat (xs:List Int):∀n:Nat,n<65536→xs.foldl csWord (n:Int)=(sumN n xs:Int)∧sumN n xs<65536:=by
 induction xs with
 | nil=>intro n h;exact ⟨rfl,h⟩
 | cons x xs ih =>
  intro n h
  have:=ih (wordN n (lo16 x)) (wordN_lt h (lo16_lt x))
  rw [List.foldl_cons,csWord_nat h,sumN]
  exact this
end Go.Proofs.YtbnfdhidgdfbeaaGreat

namespace Go.Proofs.YtbnfdhidgdfbeaaGreat
set_option maxRecDepth 100000
open Go.RowKit Cw

theorem csum_bd (xs:List Int):∃a:Nat,a<65536∧csum xs=(a:Int):=by
 unfold csum
 have h:=csum_nat xs 65535 (by decide)
 exact ⟨_,h.2,h.1⟩
theorem tilesIn_reg {b:Bd} (h:bkF b=true):tilesIn b.frames (regTiles b.dev b.reg)=true:=by
 have hn:=(framesOk_iff (bk_parts h).1).2.1
 simp only [tilesIn,List.all_eq_true,List.mem_range]
 intro j hj
 have:=regTiles_in hj
 exact inR_iff.2 (by omega)
theorem fcsum_bd {b:Bd} (h:bkF b=true):∃a:Nat,a<65536∧fcsum b.dev b.frames (regTiles b.dev b.reg)=(a:Int):=by
 unfold fcsum
 rw [(bk_parts h).1,tilesIn_reg h,if_pos (by rfl)]
 exact csum_bd _
theorem xor1_ne (a:Nat) (ha:a<65536):bits .xor .i64 (a:Int) 1≠(a:Int):=by
 have h1:=i64_xor_nat a 1 (by omega) (by omega)
 rw [show ((1:Nat):Int)=1 from rfl] at h1
 rw [h1]
 intro h
 have h2:a ^^^ 1=a:=by exact_mod_cast h
 have h3:a ^^^ (a ^^^ 1)=a ^^^ a:=by rw [h2]
 rw [←Nat.xor_assoc,Nat.xor_self,Nat.zero_xor] at h3
 omega
theorem decW_enc {x:Nat} (hx:x<65536):(decW ((encW x:Nat):Int)).2=0:=by
 have h:=(flip_one x 0 hx (by omega)).2.1
 rw [decW_nat (encW_lt x),h]
 rfl
theorem clnR_code {f:List Int} (h:CodeRow f):clnR f=true:=by
 simp only [clnR,List.all_eq_true,List.mem_range]
 intro j hj
 obtain ⟨x,hx,e⟩:=h j hj
 rw [e,decW_enc hx]
 rfl
theorem coC_yes {b:Bd} (h:Good b):coC b (fcsum b.dev b.frames (regTiles b.dev b.reg))=true:=by
 unfold coC
 rw [decide_eq_true rfl,Bool.and_true]
 simp only [clnF,List.all_eq_true,List.mem_range]
 intro j _
 exact clnR_code (h.code _)
theorem coC_no {b:Bd} (h:Good b):coC b (bits .xor .i64 (fcsum b.dev b.frames (regTiles b.dev b.reg)) 1)=false:=by
 obtain ⟨a,ha,e⟩:=fcsum_bd h.bk
 unfold coC
 rw [e,decide_eq_false (fun hx=>xor1_ne a ha hx.symm),Bool.and_false]
theorem coB_yes {b:Bd} (h:Good b) (hp:b.phase=1):coB b (fcsum b.dev b.frames (regTiles b.dev b.reg))=cmB b∧coO b (fcsum b.dev b.frames (regTiles b.dev b.reg))=true:=by
 unfold coB coO
 rw [abO_good h hp,coC_yes h]
 exact ⟨rfl,rfl⟩
theorem coB_no {b:Bd} (h:Good b) (hp:b.phase=1):coB b (bits .xor .i64 (fcsum b.dev b.frames (regTiles b.dev b.reg)) 1)=rbB b∧coO b (bits .xor .i64 (fcsum b.dev b.frames (regTiles b.dev b.reg)) 1)=false:=by
 unfold coB coO
 rw [abO_good h hp,coC_no h]
 exact ⟨rfl,rfl⟩
theorem coO_off {b:Bd} (hp:b.phase≠1) (x:Int):coB b x=b∧coO b x=false:=by
 unfold coB coO
 rw [abO_no hp]
 exact ⟨rfl,rfl⟩
theorem cm_bk {b:Bd} (h:Good b) (hp:b.phase=1):bkF (cmB b)=true:=by
 have:=bk_co h.bk (fcsum b.dev b.frames (regTiles b.dev b.reg))
 rwa [(coB_yes h hp).1] at this
theorem cm_len (b:Bd):(cmB b).state.length=b.state.length:=by show (ovS _ _ _).length=_;rw [ovS_length]
theorem cm_state {b:Bd} {i:Nat} (hi:i<b.state.length):(cmB b).state[i]?.getD 0=if ((i / 2:Nat):Int)∈regTiles b.dev b.reg then (startF b.dev b.frames)[i]?.getD 0 else b.state[i]?.getD 0 :=
 ovS_get _ _ (fun _ ht=>regTiles_pos ht) i hi
theorem pads_ok {d:Dev} {ps:List Int} (hd:devOk d=true) (hl:ps.length=tiles d) (hu:Upto 1 ps):padsOk d ps=true:=by
 unfold padsOk wordsOk
 rw [upto_all hu,decide_eq_true (by rw [hl,(tiles_eq hd).1])]
 rfl
theorem cm_outs {b:Bd} (h:Good b) (hp:b.phase=1) {ps:List Int} (hps:padsOk b.dev ps=true):spN (cmB b) ps=esO b.dev b.frames (cmB b).state ps∧(spN (cmB b) ps).length=tiles b.dev:=by
 have hb:=cm_bk h hp
 obtain ⟨h1,h2,_⟩:=bk_parts hb
 have ho:spO (cmB b) ps=true:=by unfold spO;rw [hb];exact hps
 have ha:allOk b.dev b.frames (cmB b).state ps=true:=by unfold allOk;rw [show framesOk b.dev b.frames=true from h1,show stOk b.dev (cmB b).state=true from h2,hps];rfl
 have e:spN (cmB b) ps=ouB (cmB b) ps:=by
  unfold spN
  rw [if_pos ho]
  rfl
 exact ⟨by rw [e,esO_good ha];rfl,by rw [e];exact ouB_len hb ps⟩
end Go.Proofs.YtbnfdhidgdfbeaaGreat
