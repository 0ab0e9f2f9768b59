/- What boards keep: plain lemmas. Rolling back: plain lemmas. -/
import Derived.Test.YtbnfdhidgdfbeaaGreatFrKeep
import Derived.Test.YtbnfdhidgdfbeaaGreatOpp
namespace Go.Proofs.YtbnfdhidgdfbeaaGreat
set_option maxRecDepth 100000
open Go.RowKit Cw

theorem bk_mk {b:Bd} (h1:framesOk b.dev b.frames=true) (h2:stOk b.dev b.state=true) (h3:((b.phase=0∨b.phase=2)∧b.reg=rZ∧b.saved=[])∨(b.phase=1∧rqF b.dev b.saved b.reg=true)):bkF b=true:=by
 unfold bkF
 rw [h1,h2]
 rcases h3 with ⟨hp,hr,hs⟩|⟨hp,hr⟩
 ·rw [if_pos hp,hr,hs];rfl
 ·rw [if_neg (by omega),hp,hr];rfl
theorem bk_alt {b:Bd} (h:bkF b=true):((b.phase=0∨b.phase=2)∧b.reg=rZ∧b.saved=[])∨(b.phase=1∧rqF b.dev b.saved b.reg=true):=by
 obtain ⟨_,_,hp,h1,h2⟩:=bk_parts h
 rcases hp with hp|hp|hp
 ·exact .inl ⟨.inl hp,h2 (by omega)⟩
 ·exact .inr ⟨hp,h1 hp⟩
 ·exact .inl ⟨.inr hp,h2 (by omega)⟩
theorem inSt_ovS {d:Dev} {old:List Int} (ho:InSt d old) (ts:List Int):∀{l:List Int},InSt d l→InSt d (ovS old ts l):=by
 induction ts with
 | nil=>intro l h;exact h
 | cons t ts ih=>intro l h;exact ih (l:=(l.set (2 * t.toNat) (old[2 * t.toNat]?.getD 0)).set (2 * t.toNat+1) (old[2 * t.toNat+1]?.getD 0)) (inSt_set (inSt_set h (ho _)) (ho _))
theorem stOk_dev {d:Dev} {st:List Int} (h:stOk d st=true):devOk d=true:=by
 unfold stOk at h
 rw [Bool.and_eq_true] at h
 exact h.1
theorem stOk_ovS {d:Dev} {old l:List Int} (ho:stOk d old=true) (hl:stOk d l=true) (ts:List Int):stOk d (ovS old ts l)=true :=
 stOk_mk (stOk_dev ho) (by rw [ovS_length];exact stOk_len hl) (inSt_ovS (stOk_any ho) ts (stOk_any hl))
theorem framesOk_abF {d:Dev} {sv:List (List Int)} (hs:framesOk d sv=true) (ts:List Int):∀{l:List (List Int)},framesOk d l=true→framesOk d (abF sv ts l)=true:=by
 induction ts with
 | nil=>intro l h;exact h
 | cons t ts ih =>
  intro l h
  refine ih (l:=l.set t.toNat (sv[t.toNat]?.getD [])) (framesOk_set h fun ht=>?_)
  obtain ⟨_,h2,h3⟩:=framesOk_iff hs
  exact h3 _ (by rw [h2,←(framesOk_iff h).2.1];exact ht)
theorem bk_new {d:Dev} {fs:List (List Int)} (h:framesOk d fs=true):bkF (newB d fs)=true:=by
 rw [newB_good h]
 exact bk_mk h (stOk_start h) (.inl ⟨.inl rfl,rfl,rfl⟩)
theorem bk_up {b:Bd} (h:bkF b=true) (t k i:Int):bkF (upB b t k i)=true:=by
 obtain ⟨h1,h2,_⟩:=bk_parts h
 have ha:=bk_alt h
 rw [upB,if_pos h]
 exact bk_mk (framesOk_flip h1 t k i) h2 ha
theorem bk_sc {b:Bd} (h:bkF b=true):bkF (scB b)=true:=by
 obtain ⟨h1,h2,_⟩:=bk_parts h
 have ha:=bk_alt h
 rw [scB,if_pos h]
 split
 ·exact bk_mk (framesOk_scrub h1) h2 (.inl ⟨.inr rfl,rfl,rfl⟩)
 ·exact bk_mk (framesOk_scrub h1) h2 ha
theorem bk_be {b:Bd} (h:bkF b=true) (r:Reg):bkF (beB b r)=true:=by
 obtain ⟨h1,h2,_⟩:=bk_parts h
 unfold beB
 split
 ·rename_i ho
  unfold beO at ho
  rw [Bool.and_eq_true,Bool.and_eq_true] at ho
  exact bk_mk h1 h2 (.inr ⟨rfl,ho.2.2⟩)
 ·exact h
theorem bk_wr {b:Bd} (h:bkF b=true) (t:Int) (ws:List Int):bkF (wrB b t ws)=true:=by
 obtain ⟨h1,h2,_⟩:=bk_parts h
 have ha:=bk_alt h
 unfold wrB
 split
 ·rename_i ho
  unfold wrO at ho
  simp only [Bool.and_eq_true] at ho
  exact bk_mk (framesOk_set h1 fun _=>wordsOk_enc ho.2.2.2.2) h2 ha
 ·exact h
theorem bk_rb {b:Bd} (ho:abO b=true):bkF (rbB b)=true:=by
 obtain ⟨h,hp⟩:=abO_parts ho
 obtain ⟨h1,h2,_,h4,_⟩:=bk_parts h
 exact bk_mk (framesOk_abF (rq_parts (h4 hp)).1 _ h1) h2 (.inl ⟨.inl rfl,rfl,rfl⟩)
theorem bk_co {b:Bd} (h:bkF b=true) (x:Int):bkF (coB b x)=true:=by
 obtain ⟨h1,h2,_⟩:=bk_parts h
 unfold coB
 split
 ·rename_i ho
  split
  ·exact bk_mk h1 (stOk_ovS (stOk_start h1) h2 _) (.inl ⟨.inl rfl,rfl,rfl⟩)
  ·exact bk_rb ho
 ·exact h
theorem bk_sp {b:Bd} (h:bkF b=true) (ps:List Int):bkF (spB b ps)=true:=by
 obtain ⟨h1,h2,_⟩:=bk_parts h
 have ha:=bk_alt h
 unfold spB
 split
 ·rename_i ho
  unfold spO at ho
  rw [Bool.and_eq_true] at ho
  have hn:stOk b.dev (nxB b ps)=true:=stOk_next (stOk_dev h2) h2 ho.2
  split
  ·exact h
  ·split
   ·exact bk_mk h1 (stOk_ovS h2 hn _) ha
   ·exact bk_mk h1 hn ha
 ·exact h
/-- A drawn board: valid, made of codewords; outside its region it has the saved frames. -/
structure Good (b:Bd):Prop where
 bk:bkF b=true
 ph:b.phase=0∨b.phase=1
 code:∀j:Nat,CodeRow (b.frames[j]?.getD [])
 out:b.phase=1→∀j:Nat,inReg b.dev b.reg (j:Int)=false→b.frames[j]?.getD []=b.saved[j]?.getD []
theorem good_new {d:Dev} {fs:List (List Int)} (h:framesOk d fs=true) (hc:∀j:Nat,CodeRow (fs[j]?.getD [])):Good (newB d fs):=by
 refine ⟨bk_new h,?_,?_,?_⟩
 ·rw [newB_good h];exact .inl rfl
 ·rw [newB_good h];exact hc
 ·rw [newB_good h];intro hp;cases hp
theorem good_sp {b:Bd} (h:Good b) (ps:List Int):Good (spB b ps):=by
 refine ⟨bk_sp h.bk ps,?_,?_,?_⟩ <;> (unfold spB;split) <;> (try split) <;> (try split)
 all_goals first|exact h.ph|exact h.code|exact h.out
theorem good_be {b:Bd} (h:Good b) (r:Reg):Good (beB b r):=by
 refine ⟨bk_be h.bk r,?_,?_,?_⟩ <;> (unfold beB;split)
 ·exact .inr rfl
 ·exact h.ph
 ·exact h.code
 ·exact h.code
 ·exact fun _ _ _=>rfl
 ·exact h.out
theorem good_wr {b:Bd} (h:Good b) (t:Int) (ws:List Int):Good (wrB b t ws):=by
 refine ⟨bk_wr h.bk t ws,?_,?_,?_⟩ <;> (unfold wrB;split)
 ·exact h.ph
 ·exact h.ph
 ·rename_i ho
  unfold wrO at ho
  simp only [Bool.and_eq_true] at ho
  intro j
  show CodeRow ((b.frames.set t.toNat (encL ws))[j]?.getD [])
  rw [getD_setR]
  split
  ·exact codeRow_enc ho.2.2.2.2
  ·exact h.code j
 ·exact h.code
 ·rename_i ho
  unfold wrO at ho
  simp only [Bool.and_eq_true] at ho
  intro hp j hj
  show (b.frames.set t.toNat (encL ws))[j]?.getD []=_
  have h0:=inR_iff.1 ho.2.2.1
  have h1:=ho.2.2.2.1
  rw [getD_setR,if_neg]
  ·exact h.out hp j hj
  ·rintro ⟨e,_⟩
   have e2:t=(j:Int):=by omega
   rw [e2] at h1
   rw [show inReg b.dev b.reg (j:Int)=false from hj] at h1
   cases h1
 ·exact h.out
theorem sp_dev (b:Bd) (ps:List Int):(spB b ps).dev=b.dev:=by unfold spB;split <;> (try split) <;> (try split) <;> rfl
theorem be_dev (b:Bd) (r:Reg):(beB b r).dev=b.dev:=by unfold beB;split <;> rfl
theorem wr_dev (b:Bd) (t:Int) (ws:List Int):(wrB b t ws).dev=b.dev:=by unfold wrB;split <;> rfl
end Go.Proofs.YtbnfdhidgdfbeaaGreat

namespace Go.Proofs.YtbnfdhidgdfbeaaGreat
set_option maxRecDepth 100000
open Go.RowKit Cw

theorem mem_regTo {d:Dev} {r:Reg} {j:Nat}:∀{k:Nat},j<k→inReg d r (j:Int)=true→(j:Int)∈regTo d r k
 | 0,h,_=>by omega
 | k+1,h,hi=>by
  rw [regTo,List.mem_append]
  rcases Nat.lt_or_ge j k with h1|h1
  ·exact .inl (mem_regTo h1 hi)
  ·obtain rfl:j=k:=by omega
   rw [if_pos hi]
   exact .inr (List.mem_singleton.2 rfl)
theorem mem_regTiles {d:Dev} {r:Reg} (hr:regOk d r=true) {j:Nat}:(j:Int)∈regTiles d r↔j<tiles d∧inReg d r (j:Int)=true:=by
 unfold regTiles
 rw [if_pos hr]
 exact ⟨fun h=>by have:=regTo_in h;exact ⟨by omega,this.2.2⟩,fun h=>mem_regTo h.1 h.2⟩
theorem regTiles_pos {d:Dev} {r:Reg} {t:Int} (h:t∈regTiles d r):0≤t:=by
 unfold regTiles at h
 split at h
 ·exact (regTo_in h).1
 ·cases h
theorem ovS_get (old ts:List Int):∀{l:List Int},(∀t∈ts,0≤t)→∀i:Nat,i<l.length→(ovS old ts l)[i]?.getD 0=if ((i / 2:Nat):Int)∈ts then old[i]?.getD 0 else l[i]?.getD 0:=by
 induction ts with
 | nil=>intro l _ j _;rfl
 | cons t ts ih =>
  intro l h0 i hi
  have h1:=ih (l:=(l.set (2 * t.toNat) (old[2 * t.toNat]?.getD 0)).set (2 * t.toNat+1) (old[2 * t.toNat+1]?.getD 0)) (fun u hu=>h0 u (List.mem_cons_of_mem _ hu)) i (by rw [List.length_set,List.length_set];exact hi)
  have ht:=h0 t (List.mem_cons_self ..)
  refine Eq.trans h1 ?_
  by_cases hm:((i / 2:Nat):Int)∈ts
  ·rw [if_pos hm,if_pos (List.mem_cons_of_mem _ hm)]
  ·rw [if_neg hm,getD_set,getD_set,List.length_set]
   by_cases he:t=((i / 2:Nat):Int)
   ·have hc:((i / 2:Nat):Int)∈t :: ts:=by rw [List.mem_cons];exact .inl he.symm
    rw [if_pos hc]
    rcases (by omega:2 * t.toNat+1=i∨2 * t.toNat=i) with e|e
    ·rw [if_pos ⟨e,by omega⟩,e]
    ·rw [if_neg (by omega),if_pos ⟨e,by omega⟩,e]
   ·have hc:¬((i / 2:Nat):Int)∈t :: ts:=by rw [List.mem_cons];exact fun h=>h.elim (fun h=>he h.symm) hm
    rw [if_neg hc,if_neg (by omega),if_neg (by omega)]
theorem abO_good {b:Bd} (h:Good b) (hp:b.phase=1):abO b=true:=by unfold abO;rw [h.bk,decide_eq_true hp];rfl
theorem abO_no {b:Bd} (hp:b.phase≠1):abO b=false:=by unfold abO;rw [decide_eq_false hp,Bool.and_false]
theorem abB_yes {b:Bd} (h:Good b) (hp:b.phase=1):abB b=rbB b:=by unfold abB;rw [if_pos (abO_good h hp)]
end Go.Proofs.YtbnfdhidgdfbeaaGreat
