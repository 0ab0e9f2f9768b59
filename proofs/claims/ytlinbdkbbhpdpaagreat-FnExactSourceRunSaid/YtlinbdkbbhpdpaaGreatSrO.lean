/- Values of expressions in the program, by the tree (printed by mkse3.py). Expressions of a flat module: their trees. Plain lemmas. States of a flat module, step by step, and as they are made in memory. Plain lemmas. A state of a flat module as it is made: its box and its two rows, made in any order (printed by mksro.py). Plain lemmas. -/
import Derived.Test.YtlinbdkbbhpdpaaGreatSepB
import Derived.Test.YtlinbdkbbhpdpaaGreatSrE2
namespace Go.Proofs.YtlinbdkbbhpdpaaGreat
set_option maxRecDepth 100000
open Go.RowKit

theorem exprAt_lf (kd oa ob:Int):∀(pr po ops:List OpT) (A:Option Addr) (on oc:Nat) (vals:List Int) (VA:Option Addr) (vn vc:Nat) (wd:Int) (w:World),RdC w w.heap.size (celOp ops) (.slice A on oc)→Ints w VA vn vals→ops=pr++(Tr.lf ⟨kd,oa,ob⟩).pre++po→(Tr.lf ⟨kd,oa,ob⟩).Ok vn→NoPar (Tr.lf ⟨kd,oa,ob⟩)→1≤wd→wd≤4→on≤15 →
  Calls Tryz.prog 213 #[.slice A on oc,.int .i64 (pr.length:Int),.slice VA vn vc,.int .i64 wd] w fun e w'=>e = .returned (.tuple #[.int .i64 (evT vals (mod2 wd) (Tr.lf ⟨kd,oa,ob⟩)),.int .i64 ((pr.length:Int)+((Tr.lf ⟨kd,oa,ob⟩).pre.length:Int))])∧Below w.heap.size w w':=by
 intro pr po ops A on oc vals VA vn vc wd w hr hv he hok hnp h1 h4 hon
 have hat:=at_op hr (show ops=pr++(⟨kd,oa,ob⟩ :: [])++po from he)
 obtain ⟨hk0,hfit⟩:=hok
 have hnp2:kd≠1:=hnp
 unfold OpFit at hfit
 simp only at hk0 hfit
 have hlen:∀k,k≤0→pr.length+1+lensK [] k≤16:=fun k hk=>by
  have h5:=hat.lt
  have:lensK [] k=0:=by simp [lensK]
  omega
 have hkd:0≤kd∧kd≤3:=by
  unfold arity at hk0
  by_cases h:0≤kd∧kd≤3
  ·exact h
  ·rw [if_neg h] at hk0
   split at hk0
   ·omega
   ·split at hk0
    ·omega
    ·split at hk0 <;> omega
 rcases (by omega:kd=0∨kd=2∨kd=3) with rfl|rfl|rfl
 ·have h:=exprAt_0 oa ob [] pr.length ops A on oc vals VA vn vc wd w hat hv rfl rfl hlen (fun k hk=>by omega) h1 h4 hon
  simpa [evT,Tr.pre,lensK] using h
 ·have h:=exprAt_2 oa ob [] pr.length ops A on oc vals VA vn vc wd w hat hv rfl rfl hlen (fun k hk=>by omega) h1 h4 hon (by simpa using hfit.1)
  simpa [evT,Tr.pre,lensK] using h
 ·have h:=exprAt_3 oa ob [] pr.length ops A on oc vals VA vn vc wd w hat hv rfl rfl hlen (fun k hk=>by omega) h1 h4 hon (by simpa using hfit.1) (by simpa using hfit.2)
  simpa [evT,Tr.pre,lensK] using h
theorem exprAt_un (kd oa ob:Int) (a:Tr) (iha:∀(pr po ops:List OpT) (A:Option Addr) (on oc:Nat) (vals:List Int) (VA:Option Addr) (vn vc:Nat) (wd:Int) (w:World),RdC w w.heap.size (celOp ops) (.slice A on oc)→Ints w VA vn vals→ops=pr++(a).pre++po→(a).Ok vn→NoPar (a)→1≤wd→wd≤4→on≤15 →
  Calls Tryz.prog 213 #[.slice A on oc,.int .i64 (pr.length:Int),.slice VA vn vc,.int .i64 wd] w fun e w'=>e = .returned (.tuple #[.int .i64 (evT vals (mod2 wd) (a)),.int .i64 ((pr.length:Int)+((a).pre.length:Int))])∧Below w.heap.size w w') :
  ∀(pr po ops:List OpT) (A:Option Addr) (on oc:Nat) (vals:List Int) (VA:Option Addr) (vn vc:Nat) (wd:Int) (w:World),RdC w w.heap.size (celOp ops) (.slice A on oc)→Ints w VA vn vals→ops=pr++(Tr.un ⟨kd,oa,ob⟩ a).pre++po→(Tr.un ⟨kd,oa,ob⟩ a).Ok vn→NoPar (Tr.un ⟨kd,oa,ob⟩ a)→1≤wd→wd≤4→on≤15 →
  Calls Tryz.prog 213 #[.slice A on oc,.int .i64 (pr.length:Int),.slice VA vn vc,.int .i64 wd] w fun e w'=>e = .returned (.tuple #[.int .i64 (evT vals (mod2 wd) (Tr.un ⟨kd,oa,ob⟩ a)),.int .i64 ((pr.length:Int)+((Tr.un ⟨kd,oa,ob⟩ a).pre.length:Int))])∧Below w.heap.size w w':=by
 intro pr po ops A on oc vals VA vn vc wd w hr hv he hok hnp h1 h4 hon
 have he2:ops=pr++(⟨kd,oa,ob⟩ :: (a.pre))++po:=he
 have hat:=at_op hr he2
 obtain ⟨hk,hoka⟩:=hok
 have hnpa:NoPar a:=hnp
 simp only at hk
 have h5:=hr.opN
 have h6:ops.length=pr.length+(a.pre.length+1)+po.length:=by rw [he2];simp;omega
 have hlen:∀k,k≤1→pr.length+1+lensK [a] k≤16:=fun k hk2=>by
  rcases (by omega:k=0∨k=1) with rfl|rfl
  all_goals (simp [lensK];omega)
 have hkids:∀k,k<1→ExAt Tryz.prog 213 A on oc vals VA vn vc wd w (pr.length+1+lensK [a] k) ([a][k]?.getD (.lf OpT.zero)):=fun k hk2 v hb=>by
  rcases (by omega:k=0) with rfl
  ·have h:=iha (pr++(⟨kd,oa,ob⟩ :: ([]))) (po) ops A on oc vals VA vn vc wd v (hr.below hb) (hv.below hb) (by rw [he2];simp) hoka hnpa h1 h4 hon
   rw [show ((pr++(⟨kd,oa,ob⟩ :: ([])):List OpT).length)=pr.length+1+lensK [a] 0 from by simp [lensK];try omega] at h
   exact h
 have e:((pr.length:Int)+1+(lensK [a] 1:Int))=(pr.length:Int)+((Tr.un ⟨kd,oa,ob⟩ a).pre.length:Int):=by simp [lensK,Tr.pre];omega
 subst hk
 have h:=exprAt_4 oa ob [a] pr.length ops A on oc vals VA vn vc wd w hat hv rfl (by decide) hlen hkids h1 h4 hon
 rw [e] at h
 have ev:evT vals (mod2 wd) (Tr.un ⟨4,oa,ob⟩ a)=_:=rfl
 simpa [evT,evK,eqV,ltV,muxV] using h
theorem exprAt_bi (kd oa ob:Int) (a b:Tr) (iha:∀(pr po ops:List OpT) (A:Option Addr) (on oc:Nat) (vals:List Int) (VA:Option Addr) (vn vc:Nat) (wd:Int) (w:World),RdC w w.heap.size (celOp ops) (.slice A on oc)→Ints w VA vn vals→ops=pr++(a).pre++po→(a).Ok vn→NoPar (a)→1≤wd→wd≤4→on≤15 →
  Calls Tryz.prog 213 #[.slice A on oc,.int .i64 (pr.length:Int),.slice VA vn vc,.int .i64 wd] w fun e w'=>e = .returned (.tuple #[.int .i64 (evT vals (mod2 wd) (a)),.int .i64 ((pr.length:Int)+((a).pre.length:Int))])∧Below w.heap.size w w') (ihb:∀(pr po ops:List OpT) (A:Option Addr) (on oc:Nat) (vals:List Int) (VA:Option Addr) (vn vc:Nat) (wd:Int) (w:World),RdC w w.heap.size (celOp ops) (.slice A on oc)→Ints w VA vn vals→ops=pr++(b).pre++po→(b).Ok vn→NoPar (b)→1≤wd→wd≤4→on≤15 →
  Calls Tryz.prog 213 #[.slice A on oc,.int .i64 (pr.length:Int),.slice VA vn vc,.int .i64 wd] w fun e w'=>e = .returned (.tuple #[.int .i64 (evT vals (mod2 wd) (b)),.int .i64 ((pr.length:Int)+((b).pre.length:Int))])∧Below w.heap.size w w') :
  ∀(pr po ops:List OpT) (A:Option Addr) (on oc:Nat) (vals:List Int) (VA:Option Addr) (vn vc:Nat) (wd:Int) (w:World),RdC w w.heap.size (celOp ops) (.slice A on oc)→Ints w VA vn vals→ops=pr++(Tr.bi ⟨kd,oa,ob⟩ a b).pre++po→(Tr.bi ⟨kd,oa,ob⟩ a b).Ok vn→NoPar (Tr.bi ⟨kd,oa,ob⟩ a b)→1≤wd→wd≤4→on≤15 →
  Calls Tryz.prog 213 #[.slice A on oc,.int .i64 (pr.length:Int),.slice VA vn vc,.int .i64 wd] w fun e w'=>e = .returned (.tuple #[.int .i64 (evT vals (mod2 wd) (Tr.bi ⟨kd,oa,ob⟩ a b)),.int .i64 ((pr.length:Int)+((Tr.bi ⟨kd,oa,ob⟩ a b).pre.length:Int))])∧Below w.heap.size w w':=by
 intro pr po ops A on oc vals VA vn vc wd w hr hv he hok hnp h1 h4 hon
 have he2:ops=pr++(⟨kd,oa,ob⟩ :: (a.pre++b.pre))++po:=he
 have hat:=at_op hr he2
 obtain ⟨hk,hoka,hokb⟩:=hok
 obtain ⟨hnpa,hnpb⟩:=hnp
 simp only at hk
 have h5:=hr.opN
 have h6:ops.length=pr.length+(a.pre.length+b.pre.length+1)+po.length:=by rw [he2];simp;omega
 have hlen:∀k,k≤2→pr.length+1+lensK [a,b] k≤16:=fun k hk2=>by
  rcases (by omega:k=0∨k=1∨k=2) with rfl|rfl|rfl
  all_goals (simp [lensK];omega)
 have hkids:∀k,k<2→ExAt Tryz.prog 213 A on oc vals VA vn vc wd w (pr.length+1+lensK [a,b] k) ([a,b][k]?.getD (.lf OpT.zero)):=fun k hk2 v hb=>by
  rcases (by omega:k=0∨k=1) with rfl|rfl
  ·have h:=iha (pr++(⟨kd,oa,ob⟩ :: ([]))) (b.pre++po) ops A on oc vals VA vn vc wd v (hr.below hb) (hv.below hb) (by rw [he2];simp) hoka hnpa h1 h4 hon
   rw [show ((pr++(⟨kd,oa,ob⟩ :: ([])):List OpT).length)=pr.length+1+lensK [a,b] 0 from by simp [lensK];try omega] at h
   exact h
  ·have h:=ihb (pr++(⟨kd,oa,ob⟩ :: (a.pre))) (po) ops A on oc vals VA vn vc wd v (hr.below hb) (hv.below hb) (by rw [he2];simp) hokb hnpb h1 h4 hon
   rw [show ((pr++(⟨kd,oa,ob⟩ :: (a.pre)):List OpT).length)=pr.length+1+lensK [a,b] 1 from by simp [lensK];try omega] at h
   exact h
 have e:((pr.length:Int)+1+(lensK [a,b] 2:Int))=(pr.length:Int)+((Tr.bi ⟨kd,oa,ob⟩ a b).pre.length:Int):=by simp [lensK,Tr.pre];omega
 by_cases k5:kd=5
 ·subst k5
  have h:=exprAt_5 oa ob [a,b] pr.length ops A on oc vals VA vn vc wd w hat hv rfl (by decide) hlen hkids h1 h4 hon
  rw [e] at h
  have ev:evT vals (mod2 wd) (Tr.bi ⟨5,oa,ob⟩ a b)=_:=rfl
  simpa [evT,evK,eqV,ltV,muxV] using h
 by_cases k6:kd=6
 ·subst k6
  have h:=exprAt_6 oa ob [a,b] pr.length ops A on oc vals VA vn vc wd w hat hv rfl (by decide) hlen hkids h1 h4 hon
  rw [e] at h
  have ev:evT vals (mod2 wd) (Tr.bi ⟨6,oa,ob⟩ a b)=_:=rfl
  simpa [evT,evK,eqV,ltV,muxV] using h
 by_cases k7:kd=7
 ·subst k7
  have h:=exprAt_7 oa ob [a,b] pr.length ops A on oc vals VA vn vc wd w hat hv rfl (by decide) hlen hkids h1 h4 hon
  rw [e] at h
  have ev:evT vals (mod2 wd) (Tr.bi ⟨7,oa,ob⟩ a b)=_:=rfl
  simpa [evT,evK,eqV,ltV,muxV] using h
 by_cases k8:kd=8
 ·subst k8
  have h:=exprAt_8 oa ob [a,b] pr.length ops A on oc vals VA vn vc wd w hat hv rfl (by decide) hlen hkids h1 h4 hon
  rw [e] at h
  have ev:evT vals (mod2 wd) (Tr.bi ⟨8,oa,ob⟩ a b)=_:=rfl
  simpa [evT,evK,eqV,ltV,muxV] using h
 by_cases k9:kd=9
 ·subst k9
  have h:=exprAt_9 oa ob [a,b] pr.length ops A on oc vals VA vn vc wd w hat hv rfl (by decide) hlen hkids h1 h4 hon
  rw [e] at h
  have ev:evT vals (mod2 wd) (Tr.bi ⟨9,oa,ob⟩ a b)=_:=rfl
  simpa [evT,evK,eqV,ltV,muxV] using h
 by_cases k10:kd=10
 ·subst k10
  have h:=exprAt_10 oa ob [a,b] pr.length ops A on oc vals VA vn vc wd w hat hv rfl (by decide) hlen hkids h1 h4 hon
  rw [e] at h
  have ev:evT vals (mod2 wd) (Tr.bi ⟨10,oa,ob⟩ a b)=_:=rfl
  simpa [evT,evK,eqV,ltV,muxV] using h
 by_cases k11:kd=11
 ·subst k11
  have h:=exprAt_11 oa ob [a,b] pr.length ops A on oc vals VA vn vc wd w hat hv rfl (by decide) hlen hkids h1 h4 hon
  rw [e] at h
  have ev:evT vals (mod2 wd) (Tr.bi ⟨11,oa,ob⟩ a b)=_:=rfl
  simpa [evT,evK,eqV,ltV,muxV] using h
 exfalso
 omega
theorem exprAt_te (kd oa ob:Int) (a b c:Tr) (iha:∀(pr po ops:List OpT) (A:Option Addr) (on oc:Nat) (vals:List Int) (VA:Option Addr) (vn vc:Nat) (wd:Int) (w:World),RdC w w.heap.size (celOp ops) (.slice A on oc)→Ints w VA vn vals→ops=pr++(a).pre++po→(a).Ok vn→NoPar (a)→1≤wd→wd≤4→on≤15 →
  Calls Tryz.prog 213 #[.slice A on oc,.int .i64 (pr.length:Int),.slice VA vn vc,.int .i64 wd] w fun e w'=>e = .returned (.tuple #[.int .i64 (evT vals (mod2 wd) (a)),.int .i64 ((pr.length:Int)+((a).pre.length:Int))])∧Below w.heap.size w w') (ihb:∀(pr po ops:List OpT) (A:Option Addr) (on oc:Nat) (vals:List Int) (VA:Option Addr) (vn vc:Nat) (wd:Int) (w:World),RdC w w.heap.size (celOp ops) (.slice A on oc)→Ints w VA vn vals→ops=pr++(b).pre++po→(b).Ok vn→NoPar (b)→1≤wd→wd≤4→on≤15 →
  Calls Tryz.prog 213 #[.slice A on oc,.int .i64 (pr.length:Int),.slice VA vn vc,.int .i64 wd] w fun e w'=>e = .returned (.tuple #[.int .i64 (evT vals (mod2 wd) (b)),.int .i64 ((pr.length:Int)+((b).pre.length:Int))])∧Below w.heap.size w w') (ihc:∀(pr po ops:List OpT) (A:Option Addr) (on oc:Nat) (vals:List Int) (VA:Option Addr) (vn vc:Nat) (wd:Int) (w:World),RdC w w.heap.size (celOp ops) (.slice A on oc)→Ints w VA vn vals→ops=pr++(c).pre++po→(c).Ok vn→NoPar (c)→1≤wd→wd≤4→on≤15 →
  Calls Tryz.prog 213 #[.slice A on oc,.int .i64 (pr.length:Int),.slice VA vn vc,.int .i64 wd] w fun e w'=>e = .returned (.tuple #[.int .i64 (evT vals (mod2 wd) (c)),.int .i64 ((pr.length:Int)+((c).pre.length:Int))])∧Below w.heap.size w w') :
  ∀(pr po ops:List OpT) (A:Option Addr) (on oc:Nat) (vals:List Int) (VA:Option Addr) (vn vc:Nat) (wd:Int) (w:World),RdC w w.heap.size (celOp ops) (.slice A on oc)→Ints w VA vn vals→ops=pr++(Tr.te ⟨kd,oa,ob⟩ a b c).pre++po→(Tr.te ⟨kd,oa,ob⟩ a b c).Ok vn→NoPar (Tr.te ⟨kd,oa,ob⟩ a b c)→1≤wd→wd≤4→on≤15 →
  Calls Tryz.prog 213 #[.slice A on oc,.int .i64 (pr.length:Int),.slice VA vn vc,.int .i64 wd] w fun e w'=>e = .returned (.tuple #[.int .i64 (evT vals (mod2 wd) (Tr.te ⟨kd,oa,ob⟩ a b c)),.int .i64 ((pr.length:Int)+((Tr.te ⟨kd,oa,ob⟩ a b c).pre.length:Int))])∧Below w.heap.size w w':=by
 intro pr po ops A on oc vals VA vn vc wd w hr hv he hok hnp h1 h4 hon
 have he2:ops=pr++(⟨kd,oa,ob⟩ :: (a.pre++(b.pre++c.pre)))++po:=he
 have hat:=at_op hr he2
 obtain ⟨hk,hoka,hokb,hokc⟩:=hok
 obtain ⟨hnpa,hnpb,hnpc⟩:=hnp
 simp only at hk
 have h5:=hr.opN
 have h6:ops.length=pr.length+(a.pre.length+b.pre.length+c.pre.length+1)+po.length:=by rw [he2];simp;omega
 have hlen:∀k,k≤3→pr.length+1+lensK [a,b,c] k≤16:=fun k hk2=>by
  rcases (by omega:k=0∨k=1∨k=2∨k=3) with rfl|rfl|rfl|rfl
  all_goals (simp [lensK];omega)
 have hkids:∀k,k<3→ExAt Tryz.prog 213 A on oc vals VA vn vc wd w (pr.length+1+lensK [a,b,c] k) ([a,b,c][k]?.getD (.lf OpT.zero)):=fun k hk2 v hb=>by
  rcases (by omega:k=0∨k=1∨k=2) with rfl|rfl|rfl
  ·have h:=iha (pr++(⟨kd,oa,ob⟩ :: ([]))) (b.pre++c.pre++po) ops A on oc vals VA vn vc wd v (hr.below hb) (hv.below hb) (by rw [he2];simp) hoka hnpa h1 h4 hon
   rw [show ((pr++(⟨kd,oa,ob⟩ :: ([])):List OpT).length)=pr.length+1+lensK [a,b,c] 0 from by simp [lensK];try omega] at h
   exact h
  ·have h:=ihb (pr++(⟨kd,oa,ob⟩ :: (a.pre))) (c.pre++po) ops A on oc vals VA vn vc wd v (hr.below hb) (hv.below hb) (by rw [he2];simp) hokb hnpb h1 h4 hon
   rw [show ((pr++(⟨kd,oa,ob⟩ :: (a.pre)):List OpT).length)=pr.length+1+lensK [a,b,c] 1 from by simp [lensK];try omega] at h
   exact h
  ·have h:=ihc (pr++(⟨kd,oa,ob⟩ :: (a.pre++b.pre))) (po) ops A on oc vals VA vn vc wd v (hr.below hb) (hv.below hb) (by rw [he2];simp) hokc hnpc h1 h4 hon
   rw [show ((pr++(⟨kd,oa,ob⟩ :: (a.pre++b.pre)):List OpT).length)=pr.length+1+lensK [a,b,c] 2 from by simp [lensK];try omega] at h
   exact h
 have e:((pr.length:Int)+1+(lensK [a,b,c] 3:Int))=(pr.length:Int)+((Tr.te ⟨kd,oa,ob⟩ a b c).pre.length:Int):=by simp [lensK,Tr.pre];omega
 subst hk
 have h:=exprAt_12 oa ob [a,b,c] pr.length ops A on oc vals VA vn vc wd w hat hv rfl (by decide) hlen hkids h1 h4 hon
 rw [e] at h
 have ev:evT vals (mod2 wd) (Tr.te ⟨12,oa,ob⟩ a b c)=_:=rfl
 simpa [evT,evK,eqV,ltV,muxV] using h
/-- The value of an expression, and the place behind it. -/
theorem exprAt_any:∀t:Tr,∀(pr po ops:List OpT) (A:Option Addr) (on oc:Nat) (vals:List Int) (VA:Option Addr) (vn vc:Nat) (wd:Int) (w:World),RdC w w.heap.size (celOp ops) (.slice A on oc)→Ints w VA vn vals→ops=pr++(t).pre++po→(t).Ok vn→NoPar (t)→1≤wd→wd≤4→on≤15 →
  Calls Tryz.prog 213 #[.slice A on oc,.int .i64 (pr.length:Int),.slice VA vn vc,.int .i64 wd] w fun e w'=>e = .returned (.tuple #[.int .i64 (evT vals (mod2 wd) (t)),.int .i64 ((pr.length:Int)+((t).pre.length:Int))])∧Below w.heap.size w w'
 | .lf ⟨kd,oa,ob⟩=>exprAt_lf kd oa ob
 | .un ⟨kd,oa,ob⟩ a=>exprAt_un kd oa ob a (exprAt_any a)
 | .bi ⟨kd,oa,ob⟩ a b=>exprAt_bi kd oa ob a b (exprAt_any a) (exprAt_any b)
 | .te ⟨kd,oa,ob⟩ a b c=>exprAt_te kd oa ob a b c (exprAt_any a) (exprAt_any b) (exprAt_any c)
end Go.Proofs.YtlinbdkbbhpdpaaGreat

namespace Go.Proofs.YtlinbdkbbhpdpaaGreat
set_option maxRecDepth 100000
open Go.RowKit

theorem noPar_of:∀{t:Tr},(∀o∈t.pre,o.kind≠1)→NoPar t
 | .lf o,h=>h o (by simp [Tr.pre])
 | .un o a,h=>noPar_of (t:=a) fun q hq=>h q (by simp [Tr.pre,hq])
 | .bi o a b,h=>⟨noPar_of (t:=a) fun q hq=>h q (by simp [Tr.pre,hq]),noPar_of (t:=b) fun q hq=>h q (by simp [Tr.pre,hq])⟩
 | .te o a b c,h=>⟨noPar_of (t:=a) fun q hq=>h q (by simp [Tr.pre,hq]),noPar_of (t:=b) fun q hq=>h q (by simp [Tr.pre,hq]),noPar_of (t:=c) fun q hq=>h q (by simp [Tr.pre,hq])⟩
/-- The tree of an assignment of a flat module. -/
theorem FlatFit.tree {m:MdT} (h:FlatFit m) {i:Nat} (hi:i<m.asgs.length):(trOf (asK m i).ops m.sigs.length).pre=(asK m i).ops∧(trOf (asK m i).ops m.sigs.length).Ok m.sigs.length∧NoPar (trOf (asK m i).ops m.sigs.length):=by
 obtain ⟨h1,h2⟩:=trOf_spec (h.asf hi).2
 refine ⟨h1,h2,noPar_of fun o ho hk=>h.par i hi ?_⟩
 rw [h1] at ho
 obtain ⟨j,hj,rfl⟩:=List.getElem_of_mem ho
 exact ⟨j,hj,by rw [List.getElem?_eq_getElem hj];exact hk⟩
end Go.Proofs.YtlinbdkbbhpdpaaGreat

namespace Go.Proofs.YtlinbdkbbhpdpaaGreat
set_option maxRecDepth 100000
open Go.RowKit

/-- The first values of the registers. -/
def staTo (m:MdT):Nat→List Int
 | 0=>List.replicate m.sigs.length 0
 | k+1=>(staTo m k).set k ((sgK m.sigs k).init % mod2 (sgK m.sigs k).width)
theorem staTo_len (m:MdT):∀k,(staTo m k).length=m.sigs.length
 | 0=>by simp [staTo]
 | k+1=>by rw [staTo,List.length_set,staTo_len]
theorem staTo_at (m:MdT):∀{k i:Nat},i<m.sigs.length→(staTo m k)[i]?.getD 0=if i<k then (sgK m.sigs i).init % mod2 (sgK m.sigs i).width else 0
 | 0,i,hi=>by rw [staTo,List.getElem?_replicate,if_pos hi];simp
 | k+1,i,hi=>by
  rw [staTo,getD_set,staTo_at m hi,staTo_len]
  by_cases h:k=i
  ·subst h
   rw [if_pos ⟨rfl,hi⟩,if_pos (by omega)]
  ·rw [if_neg (fun e=>h e.1)]
   by_cases h2:i<k
   ·rw [if_pos h2,if_pos (by omega)]
   ·rw [if_neg h2,if_neg (by omega)]
theorem list_getD {a b:List Int} (h1:a.length=b.length) (h2:∀i,i<a.length→a[i]?.getD 0=b[i]?.getD 0):a=b:=by
 refine List.ext_getElem h1 fun i ha hb=>?_
 have h:=h2 i ha
 rwa [List.getElem?_eq_getElem ha,List.getElem?_eq_getElem hb] at h
theorem staV_len (m:MdT):(staV m).length=m.sigs.length:=by simp [staV]
theorem staTo_done (m:MdT):staTo m m.sigs.length=staV m:=by
 refine list_getD (by rw [staTo_len,staV_len]) fun i hi=>?_
 rw [staTo_len] at hi
 rw [staTo_at m hi,if_pos hi,staV_at hi]
/-- A signal that starts at 0 changes nothing. -/
theorem staTo_skip {m:MdT} {k:Nat} (hk:k<m.sigs.length) (h0:(sgK m.sigs k).init=0):staTo m (k+1)=staTo m k:=by
 refine list_getD (by rw [staTo_len,staTo_len]) fun i hi=>?_
 rw [staTo_len] at hi
 rw [staTo_at m hi,staTo_at m hi]
 by_cases h:i=k
 ·subst h
  rw [if_pos (by omega),if_neg (by omega),h0];simp
 ·by_cases h2:i<k
  ·rw [if_pos h2,if_pos (by omega)]
  ·rw [if_neg h2,if_neg (by omega)]
theorem ordTo_snoc (m:MdT) (i:Nat):∀(o:List Nat) (v:List Int),ordTo m v (o++[i])=(ordTo m v o).set (asK m i).target.toNat (evA m (ordTo m v o) (asK m i))
 | [],v=>by rw [List.nil_append,ordTo,ordTo,ordTo]
 | j :: r,v=>by rw [List.cons_append,ordTo,ordTo_snoc,ordTo]
theorem ordTo_succ (m:MdT) (v:List Int) {o:List Nat} {j:Nat} (hj:j<o.length):ordTo m v (o.take (j+1))=(ordTo m v (o.take j)).set (asK m (o[j]?.getD 0)).target.toNat (evA m (ordTo m v (o.take j)) (asK m (o[j]?.getD 0))):=by
 rw [List.take_add_one,List.getElem?_eq_getElem hj,Option.getD_some]
 exact ordTo_snoc m _ _ v
theorem pwTo_snoc (sg:List SgT) (kind:Int) (k:Nat):pwTo sg kind (k+1)=pwTo sg kind k++if (sgK sg k).kind=kind then [(sgK sg k).width] else []:=rfl
/-- The next of a kind among the signals is in the list of their widths. -/
theorem pwTo_lt (sg:List SgT) (kind:Int) {k:Nat}:∀{n:Nat},k<n→(sgK sg k).kind=kind→(pwTo sg kind k).length<(pwTo sg kind n).length
 | 0,h,_=>by omega
 | n+1,h,hk=>by
  rw [pwTo_snoc sg kind n,List.length_append]
  rcases Nat.lt_or_ge k n with h1|h1
  ·have:=pwTo_lt sg kind h1 hk
   omega
  ·obtain rfl:k=n:=by omega
   rw [if_pos hk,List.length_singleton];omega
theorem pwOf_flat {m:MdT} (h:FlatFit m) (kind:Int):pwOf m kind=pwTo m.sigs kind m.sigs.length:=by
 unfold pwOf
 rw [if_pos h.cnt.sg]

theorem evRun_len {m:MdT}:∀{f:Nat} {todo out o:List Nat},evRun m f todo out=some o→o.length≤out.length+todo.length
 | 0,todo,out,o,h=>by
  rw [evRun] at h
  split at h
  ·injection h with h;subst h;omega
  ·cases h
 | f+1,todo,out,o,h=>by
  rw [evRun] at h
  split at h
  ·injection h with h;subst h;omega
  ·split at h
   ·cases h
   ·rename_i k hk
    have h1:=evRun_len h
    have hlt:k<todo.length:=(List.findIdx?_eq_some_iff_getElem.1 hk).1
    rw [List.length_eraseIdx_of_lt hlt,List.length_append,List.length_singleton] at h1
    omega
theorem evalOrd_len {m:MdT} {o:List Nat} (hf:FlatFit m) (h:evalOrd m=some o):o.length≤30:=by
 have h1:=hf.cnt.asg
 have h2:=todoTo_len m m.asgs.length
 unfold evalOrd at h
 split at h
 ·have:=evRun_len h
  rw [List.length_nil] at this
  omega
 ·cases h

/-! ### pieces -/
theorem PcsAt.permQ {w:World} {ps qs:List Pc} (hp:ps.Perm qs):∀{F:List Nat},PcsAt w ps F→∃G,PcsAt w qs G∧F.Perm G:=by
 induction hp with
 | nil=>exact fun h=>⟨_,h,List.Perm.refl _⟩
 | cons p _ ih =>
  rintro F ⟨F1,F2,rfl,h1,h2⟩
  obtain ⟨G,k1,k2⟩:=ih h2
  exact ⟨F1++G,⟨F1,G,rfl,h1,k1⟩,k2.append_left F1⟩
 | swap p q _ =>
  rintro F ⟨F1,_,rfl,h1,F2,F3,rfl,h2,h3⟩
  refine ⟨F2++(F1++F3),⟨F2,F1++F3,rfl,h2,F1,F3,rfl,h1,h3⟩,?_⟩
  rw [←List.append_assoc,←List.append_assoc]
  exact List.perm_append_comm.append_right F3
 | trans _ _ ih1 ih2 =>
  intro F h
  obtain ⟨G,k1,k2⟩:=ih1 h
  obtain ⟨H,m1,m2⟩:=ih2 k1
  exact ⟨H,m1,k2.trans m2⟩
theorem Sepa.permQ {W w:World} {ps qs:List Pc} (h:Sepa W w ps) (hp:ps.Perm qs):Sepa W w qs:=by
 obtain ⟨h1,F,h2,h3,h4⟩:=h
 obtain ⟨G,k1,k2⟩:=h2.permQ hp
 exact ⟨h1,G,k1,k2.nodup h3,fun k hk=>h4 k (k2.mem_iff.2 hk)⟩
theorem Sepa.fillQ {W w w':World} {ps:List Pc} {c:Cel} {v:Value} {hi:Nat} (h:Sepa W w ps) (j:Nat) (hj:ps[j]?=some (.cels [] [])) (hb:Below w.heap.size w w') (ho:OwnT w.heap.size hi w' c v):Sepa W w' (ps.set j (.cel c v)):=by
 obtain ⟨F,k1,k2,k3,k4⟩:=h.part j hj
 obtain ⟨G,g1,g2,g3⟩:=ho
 exact k4 w' _ G g1 g2 (fun k hk => .inr (g3 k hk).1) ⟨hb.os,hb.tape,hb.output,hb.size,fun k hk _=>hb.block k hk⟩
theorem Sepa.fillOwnQ {W w w':World} {ps:List Pc} {A:Option Addr} {n c:Nat} {xs:List Int} (h:Sepa W w ps) (j:Nat) (hj:ps[j]?=some (.cels [] [])) (hb:Below w.heap.size w w') (ho:Own w.heap.size w' A n c xs):Sepa W w' (ps.set j (.cel (celI xs) (.slice A n c))):=by
 have h1:=((Sepa.nil (Below.refl w.heap.size w)).pushOwn hb ho).tree 0 rfl
 exact h.fillQ j hj hb h1
theorem Sepa.holeQ {W w:World} {ps:List Pc} (h:Sepa W w ps):Sepa W w (.cels [] [] :: ps) :=
 h.cons (Below.refl _ _) (p := .cels [] []) (G:=[]) (show OwnL w [] [] [] from ownL_nil.2 ⟨rfl,rfl⟩) (by simp) (by simp)
theorem synQ {P:Program} {f:FuncId} {args:Array Value} {Q:Ending→World→Prop} {W w:World} {ps:List Pc} (h:Sepa W w ps) (k:Sepa W w ps→Calls P f args w Q):Calls P f args w Q:=k h
theorem synQS {P:Program} {ops:Array Oper} {o:Oper} {a:Act} {Q:Exit→Act→World→Prop} {K:Act→World→Prop} {E:Prop} {W w:World} {ps:List Pc} (h:Sepa W w ps) (k:Sepa W w ps→if Region.wanted o (yielded ops a.tmps)=true then Oper.wp P o a w K Q else E):if Region.wanted o (yielded ops a.tmps)=true then Oper.wp P o a w K Q else E:=k h
theorem intQ_info0:(Tryz.prog.info? 3).map (fun i=>(i.zero,i.size,i.bytes))=some (some (.int .i64 0),1,8):=by kernel_rfl
abbrev zObj (n:Nat):Obj := .cells (arr (List.replicate n 0)) 3
theorem run_make_ints (n:Nat) (hn:n≤1048576) (W:World):(Instr.makeSlice 29 (.int .i64 (n:Int)) (.int .i64 (n:Int))).run Tryz.prog W = .ok (.slice (some ⟨W.heap.size,0,none⟩) n n) (W.alloc (zObj n)):=by
 obtain ⟨i0,hi,hz0,hz1,hz2⟩:=info_parts intQ_info0
 have h:=run_make_rowN (P:=Tryz.prog) 29 3 i0 _ Tryz.underlying29 hi hz0 .i64 .i64 n n (Nat.le_refl _) (by rw [hz2];omega) (by omega) W
 rwa [hz1,Nat.mul_one,show (Value.int .i64 0).cells=#[Value.int .i64 0] from rfl,arr_made] at h
theorem run_make_ints4 (n:Nat) (hn:n≤1024) (W:World):(Instr.makeSlice 29 (.int .i64 (4 * (n:Int))) (.int .i64 (4 * (n:Int)))).run Tryz.prog W = .ok (.slice (some ⟨W.heap.size,0,none⟩) (4 * n) (4 * n)) (W.alloc (zObj (4 * n))):=by
 have h:=run_make_ints (4 * n) (by omega) W
 rwa [show ((4 * n:Nat):Int)=4 * (n:Int) from by omega] at h
end Go.Proofs.YtlinbdkbbhpdpaaGreat

namespace Go.Proofs.YtlinbdkbbhpdpaaGreat
set_option maxRecDepth 100000
open Go.RowKit

theorem Sepa.pushZ {W w:World} {ps:List Pc} (h:Sepa W w ps) (n:Nat) (hn:n≤1048576):Sepa W (w.alloc (zObj n)) (ps++[.cel (celI (List.replicate n 0)) (.slice (some ⟨w.heap.size,0,none⟩) n n)]) :=
 h.pushOwn (below_new (Below.refl _ _) _) (Own.arr (heap_new w _) (Nat.le_refl _) (by unfold maxLen;omega) (by simp))
abbrev wsB (g:Nat) (a b:Value):Pc := .blk g #[a,b] 158
abbrev wsO (a b:Value):Obj := .cells #[a,b] 158
/-- The pieces of a state. -/
abbrev wsP (g g0 g1 sn wn:Nat) (vals words:List Int):List Pc:=[wsB g (.slice (some ⟨g0,0,none⟩) sn sn) (.slice (some ⟨g1,0,none⟩) wn wn),.cel (celI vals) (.slice (some ⟨g0,0,none⟩) sn sn),.cel (celI words) (.slice (some ⟨g1,0,none⟩) wn wn)]
def StartW (W:World) (sn wn:Nat) (p:Value) (w':World):Prop:=∃g g0 g1,p = .pointer (some ⟨g,0,none⟩)∧Sepa W w' (wsP g g0 g1 sn wn (List.replicate sn 0) (List.replicate wn 0))
theorem StartW.drew {W w':World} {sn wn:Nat} {p:Value} (h:StartW W sn wn p w'):StartW W sn wn p w'.drew:=by
 obtain ⟨g,g0,g1,h1,h2⟩:=h
 exact ⟨g,g0,g1,h1,h2.drew⟩
theorem stw_a {W w:World} (h:Sepa W w []) {sn wn:Nat} (hs:sn≤1048576) (hw:wn≤1048576):StartW W sn wn (.pointer (some ⟨w.heap.size+1+1,0,none⟩)) (((w.alloc (zObj sn)).alloc (zObj wn)).alloc (wsO (.slice (some ⟨w.heap.size,0,none⟩) sn sn) (.slice (some ⟨w.heap.size+1,0,none⟩) wn wn))):=by
 have h1:=(((h).pushZ sn hs).pushZ wn hw).pushBlk #[.slice (some ⟨w.heap.size,0,none⟩) sn sn,.slice (some ⟨w.heap.size+1,0,none⟩) wn wn] 158
 simp only [World.size_alloc] at h1
 exact ⟨w.heap.size+1+1,w.heap.size,w.heap.size+1,rfl,h1.permQ (List.perm_append_comm (l₁:=[_,_]) (l₂:=[_]))⟩
theorem stw_b {W w:World} (h:Sepa W w []) {sn wn:Nat} (hs:sn≤1048576) (hw:wn≤1048576):StartW W sn wn (.pointer (some ⟨w.heap.size+1+1,0,none⟩)) (((w.alloc (zObj wn)).alloc (zObj sn)).alloc (wsO (.slice (some ⟨w.heap.size+1,0,none⟩) sn sn) (.slice (some ⟨w.heap.size,0,none⟩) wn wn))):=by
 have h1:=(((h).pushZ wn hw).pushZ sn hs).pushBlk #[.slice (some ⟨w.heap.size+1,0,none⟩) sn sn,.slice (some ⟨w.heap.size,0,none⟩) wn wn] 158
 simp only [World.size_alloc] at h1
 exact ⟨w.heap.size+1+1,w.heap.size+1,w.heap.size,rfl,h1.permQ ((List.perm_append_comm (l₁:=[_,_]) (l₂:=[_])).trans (List.Perm.cons _ (List.Perm.swap _ _ _)))⟩
theorem stw_c {W w:World} (h:Sepa W w []) {sn wn:Nat} (hs:sn≤1048576) (hw:wn≤1048576):StartW W sn wn (.pointer (some ⟨w.heap.size+1,0,none⟩)) (((w.alloc (zObj sn)).alloc (wsO (.slice (some ⟨w.heap.size,0,none⟩) sn sn) (.slice (some ⟨w.heap.size+1+1,0,none⟩) wn wn))).alloc (zObj wn)):=by
 have h1:=(((h).pushZ sn hs).pushBlk #[.slice (some ⟨w.heap.size,0,none⟩) sn sn,.slice (some ⟨w.heap.size+1+1,0,none⟩) wn wn] 158).pushZ wn hw
 simp only [World.size_alloc] at h1
 exact ⟨w.heap.size+1,w.heap.size,w.heap.size+1+1,rfl,h1.permQ (List.Perm.swap _ _ _)⟩
theorem stw_d {W w:World} (h:Sepa W w []) {sn wn:Nat} (hs:sn≤1048576) (hw:wn≤1048576):StartW W sn wn (.pointer (some ⟨w.heap.size+1,0,none⟩)) (((w.alloc (zObj wn)).alloc (wsO (.slice (some ⟨w.heap.size+1+1,0,none⟩) sn sn) (.slice (some ⟨w.heap.size,0,none⟩) wn wn))).alloc (zObj sn)):=by
 have h1:=(((h).pushZ wn hw).pushBlk #[.slice (some ⟨w.heap.size+1+1,0,none⟩) sn sn,.slice (some ⟨w.heap.size,0,none⟩) wn wn] 158).pushZ sn hs
 simp only [World.size_alloc] at h1
 exact ⟨w.heap.size+1,w.heap.size+1+1,w.heap.size,rfl,h1.permQ ((List.perm_append_comm (l₁:=[_]) (l₂:=[_,_])))⟩
theorem stw_e {W w:World} (h:Sepa W w []) {sn wn:Nat} (hs:sn≤1048576) (hw:wn≤1048576):StartW W sn wn (.pointer (some ⟨w.heap.size,0,none⟩)) (((w.alloc (wsO (.slice (some ⟨w.heap.size+1,0,none⟩) sn sn) (.slice (some ⟨w.heap.size+1+1,0,none⟩) wn wn))).alloc (zObj sn)).alloc (zObj wn)):=by
 have h1:=(((h).pushBlk #[.slice (some ⟨w.heap.size+1,0,none⟩) sn sn,.slice (some ⟨w.heap.size+1+1,0,none⟩) wn wn] 158).pushZ sn hs).pushZ wn hw
 simp only [World.size_alloc] at h1
 exact ⟨w.heap.size,w.heap.size+1,w.heap.size+1+1,rfl,h1.permQ (List.Perm.refl _)⟩
theorem stw_f {W w:World} (h:Sepa W w []) {sn wn:Nat} (hs:sn≤1048576) (hw:wn≤1048576):StartW W sn wn (.pointer (some ⟨w.heap.size,0,none⟩)) (((w.alloc (wsO (.slice (some ⟨w.heap.size+1+1,0,none⟩) sn sn) (.slice (some ⟨w.heap.size+1,0,none⟩) wn wn))).alloc (zObj wn)).alloc (zObj sn)):=by
 have h1:=(((h).pushBlk #[.slice (some ⟨w.heap.size+1+1,0,none⟩) sn sn,.slice (some ⟨w.heap.size+1,0,none⟩) wn wn] 158).pushZ wn hw).pushZ sn hs
 simp only [World.size_alloc] at h1
 exact ⟨w.heap.size,w.heap.size+1+1,w.heap.size+1,rfl,h1.permQ (List.Perm.cons _ (List.Perm.swap _ _ _))⟩
theorem drew_allocQ (w:World) (o:Obj):w.drew.alloc o=(w.alloc o).drew:=rfl
end Go.Proofs.YtlinbdkbbhpdpaaGreat
