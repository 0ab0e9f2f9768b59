/- Two upset bits of one codeword: plain lemmas. -/
import Derived.Test.YtbnfdhidgdfbeaaGreatDrwT
import Derived.Test.YtbnfdhidgdfbeaaGreatRbPure
namespace Go.Proofs.YtbnfdhidgdfbeaaGreat
set_option maxRecDepth 100000
open Go.RowKit Cw

theorem flipBit_nat {c k:Nat} (hc:c<4194304) (hk:k<22):flipBit (c:Int) (k:Nat)=((c ^^^ 2 ^ k:Nat):Int):=by
 have hp:2 ^ k<2 ^ 22:=Nat.pow_lt_pow_right (by omega) (by omega)
 unfold flipBit
 rw [range_true hc,show inR (k:Int) 0 21=true from inR_iff.2 ⟨by omega,by omega⟩]
 simp only [Bool.and_self,if_true,Int.toNat_natCast]
 rw [int_pow_cast]
 exact i64_xor_nat _ _ (by omega) (by omega)
theorem xor_ne_zero {a b:Nat} (h:a≠b):a ^^^ b≠0:=by
 intro h0
 apply h
 have h1:a ^^^ (a ^^^ b)=a ^^^ 0:=by rw [h0]
 rw [←Nat.xor_assoc,Nat.xor_self,Nat.zero_xor,Nat.xor_zero] at h1
 exact h1.symm
theorem syn_two {x i k:Nat} (hx:x<65536) (hi:i<22) (hk:k<22) (hne:i≠k):synW (encW x ^^^ 2 ^ i ^^^ 2 ^ k)≠0:=by
 have hs:=syn_enc x hx
 rcases (by omega:k<21∨k=21) with h|rfl
 ·rw [syn_flip _ _ h]
  rcases (by omega:i<21∨i=21) with h2|rfl
  ·rw [syn_flip _ _ h2,hs,Nat.zero_xor]
   exact xor_ne_zero (by omega)
  ·rw [syn_flip21,hs,Nat.zero_xor]
   omega
 ·rw [syn_flip21,syn_flip _ _ (by omega),hs,Nat.zero_xor]
  omega
theorem rep_two {x i k:Nat} (hx:x<65536) (hi:i<22) (hk:k<22) (hne:i≠k):(repW (flipBit (flipBit ((encW x:Nat):Int) (i:Nat)) (k:Nat))).2=2:=by
 have h1:=xor_pow_lt (encW_lt x) (show i≤21 by omega)
 have h2:=xor_pow_lt h1 (show k≤21 by omega)
 have h3:decN (encW x ^^^ 2 ^ i ^^^ 2 ^ k)=(0,2):=by
  have ho:=ones_enc x
  rw [decN,ones_flip _ _ hk,if_pos (by have:=ones_flip (encW x) i hi;omega),if_neg (syn_two hx hi hk hne)]
 rw [flipBit_nat (encW_lt x) hi,flipBit_nat h1 hk]
 unfold repW
 rw [decW_nat h2,h3]
 simp
theorem cntTo_bad {f:List Int} (h:CodeRow f) {w:Nat} {c:Int} (hw:w<f.length) (hc:(repW c).2=2) {s:Int} (hs:s≠0) (m:Nat) (hm:m≤f.length):cntTo s (f.set w c) m=if w<m∧s=2 then 1 else 0:=by
 induction m with
 | zero=>rw [if_neg (by omega)];rfl
 | succ m ih =>
  rw [cntTo,ih (by omega),getD_set]
  by_cases he:w=m
  ·subst he
   rw [if_pos (show w=w∧w<f.length from ⟨rfl,hw⟩),hc,if_neg (show ¬(w<w∧s=2) by omega)]
   by_cases h1:s=2
   ·subst h1;simp
   ·rw [if_neg (fun h=>h1 h.symm),if_neg (by omega)]
  ·obtain ⟨x,hx,e⟩:=h m (by omega)
   rw [if_neg (show ¬(w=m∧w<f.length) from fun h=>he h.1),e,rep_enc hx,if_neg (show ¬(0:Int)=s from fun h=>hs h.symm),Nat.add_zero]
   by_cases h1:w<m∧s=2
   ·rw [if_pos h1,if_pos (by omega)]
   ·rw [if_neg h1,if_neg (by omega)]
theorem cnt2_set {fs:List (List Int)} (h:∀j:Nat,CodeRow (fs[j]?.getD [])) {t:Nat} (ht:t<fs.length) {r:List Int} {s:Int} (hs:s≠0) (m:Nat) (hm:m≤fs.length):cnt2To s (fs.set t r) m=if t<m then cntTo s r r.length else 0:=by
 induction m with
 | zero=>rw [if_neg (by omega)];rfl
 | succ m ih =>
  rw [cnt2To,ih (by omega),getD_setR]
  by_cases he:t=m
  ·subst he
   rw [if_pos (show t=t∧t<fs.length from ⟨rfl,ht⟩),if_neg (Nat.lt_irrefl t),if_pos (Nat.lt_succ_self t),Nat.zero_add]
  ·rw [if_neg (show ¬(t=m∧t<fs.length) from fun h=>he h.1),cntTo_code (h m) hs _ (Nat.le_refl _),Nat.add_zero]
   by_cases h1:t<m
   ·rw [if_pos h1,if_pos (by omega)]
   ·rw [if_neg h1,if_neg (by omega)]
/-- What becomes of a board of which two bits of one word are upset, and that is scrubbed. -/
structure Twice (b X Y Z:Bd) (o1 o2:Bool) (c1 c2:Int):Prop where
 o1:o1=true
 o2:o2=true
 bkX:bkF X=true
 bkY:bkF Y=true
 bkZ:bkF Z=true
 c1:c1=0
 c2:c2=1
 ph:Z.phase=2
 dv:Z.dev=b.dev
theorem twice {b:Bd} (h:Good b) {t w i k:Nat} (ht:t<b.frames.length) (hw:w<(fwI b.dev).toNat) (hi:i<22) (hk:k<22) (hne:i≠k) :
  Twice b (upB b t w i) (upB (upB b t w i) t w k) (scB (upB (upB b t w i) t w k)) (upO b t w i) (upO (upB b t w i) t w k) (scN (upB (upB b t w i) t w k) 1) (scN (upB (upB b t w i) t w k) 2):=by
 have hX:=bk_up h.bk (t:Int) (w:Int) (i:Int)
 have hY:=bk_up hX (t:Int) (w:Int) (k:Int)
 have hZ:=bk_sc hY
 obtain ⟨hf,_⟩:=bk_parts h.bk
 obtain ⟨hd,hl,hrows⟩:=framesOk_iff hf
 have hfw:=fwI_bd hd
 have hrl:((b.frames[t]?.getD []).length:Int)=fwI b.dev:=(wordsOk_iff.1 (hrows t ht)).1
 have hwr:w<(b.frames[t]?.getD []).length:=by omega
 have hok:∀fs:List (List Int),framesOk b.dev fs=true→fs.length=b.frames.length→∀q:Nat,q<22→flipOk b.dev fs t w q=true:=fun fs hfs hls q hq=>by
  unfold flipOk
  rw [hfs,inR_iff.2 (by rw [hls];omega),inR_iff.2 (by omega),inR_iff.2 (by omega)]
  rfl
 have hk1:=hok b.frames hf rfl i hi
 have e1:(upB b t w i).frames=b.frames.set t ((b.frames[t]?.getD []).set w (flipBit ((b.frames[t]?.getD [])[w]?.getD 0) (i:Nat))):=by
  rw [upB,if_pos h.bk]
  show flipFrame _ _ _ _ _=_
  unfold flipFrame
  rw [if_pos hk1,Int.toNat_natCast,Int.toNat_natCast]
 have hdx:(upB b t w i).dev=b.dev:=by rw [upB,if_pos h.bk]
 have hl1:(upB b t w i).frames.length=b.frames.length:=by rw [e1,List.length_set]
 have hk2:=hok (upB b t w i).frames (by have:=(bk_parts hX).1;rwa [hdx] at this) hl1 k hk
 generalize hXX:upB b t w i=X at *
 have e2:(upB X t w k).frames=b.frames.set t ((b.frames[t]?.getD []).set w (flipBit (flipBit ((b.frames[t]?.getD [])[w]?.getD 0) (i:Nat)) (k:Nat))):=by
  rw [upB,if_pos hX]
  show flipFrame _ _ _ _ _=_
  unfold flipFrame
  rw [hdx,if_pos hk2,Int.toNat_natCast,Int.toNat_natCast,e1,List.set_set,getD_setR,if_pos ⟨rfl,ht⟩,List.set_set,getD_set,if_pos ⟨rfl,hwr⟩]
 have hdy:(upB X t w k).dev=b.dev:=by rw [upB,if_pos hX];exact hdx
 have ho2:upO X t w k=true:=by unfold upO;rw [hX,hdx,hk2];rfl
 have ho1:upO b t w i=true:=by unfold upO;rw [h.bk,hk1];rfl
 generalize hYY:upB X t w k=Y at *
 have hfY:=(bk_parts hY).1
 have hbad:(repW (flipBit (flipBit ((b.frames[t]?.getD [])[w]?.getD 0) (i:Nat)) (k:Nat))).2=2:=by
  obtain ⟨x,hx,e⟩:=h.code t w hwr
  rw [e]
  exact rep_two hx hi hk hne
 have hcnt:∀s:Int,s≠0→scN Y s=if s=2 then 1 else 0:=fun s hs=>by
  unfold scN scrubN
  rw [if_pos hY,if_pos hfY,e2,List.length_set,cnt2_set h.code ht hs _ (Nat.le_refl _),if_pos ht,List.length_set,cntTo_bad (h.code t) hwr hbad hs _ (Nat.le_refl _)]
  by_cases h2:s=2
  ·rw [if_pos h2,if_pos ⟨hwr,h2⟩];rfl
  ·rw [if_neg h2,if_neg (fun hh=>h2 hh.2)];rfl
 have hc2:=hcnt 2 (by omega)
 rw [if_pos rfl] at hc2
 have hs2:scrubN Y.dev Y.frames 2=1:=by unfold scN at hc2;rwa [if_pos hY] at hc2
 have eZ:scB Y=⟨Y.dev,scrubF Y.dev Y.frames,Y.state,2,rZ,[]⟩:=by
  unfold scB
  rw [if_pos hY,if_pos (by rw [hs2];decide)]
 exact ⟨ho1,ho2,hX,hY,hZ,by rw [hcnt 1 (by omega)];rfl,hc2,by rw [eZ],by rw [eZ];exact hdy⟩
theorem sp_failed {b:Bd} (hb:bkF b=true) (hp:b.phase=2) {ps:List Int} (hps:padsOk b.dev ps=true):spB b ps=b∧spN b ps=List.replicate (tiles b.dev) 0:=by
 have ho:spO b ps=true:=by unfold spO;rw [hb];exact hps
 unfold spB spN
 rw [if_pos ho,if_pos hp,if_pos ho,if_pos hp]
 exact ⟨rfl,rfl⟩
end Go.Proofs.YtbnfdhidgdfbeaaGreat
