/- What the reference keeps for each node while it reads a device back. Plain lemmas. The reference's search for the next look-up table, and what it keeps for each node. Plain lemmas. What the proofs of the fourth loop of the reference's Disassemble share. -/
import Derived.Deep.CutRange
import Derived.Deep.DeepCutAuto
import Derived.Test.YtignkfhdkcgkgaaGreatRtS4
import Derived.Test.YtignkfhdkcgkgaaGreatSepN
import Derived.Test.YtignkfhdkcgkgaaGreatTrcS
namespace Go.Proofs.YtignkfhdkcgkgaaGreat
set_option maxRecDepth 100000
open Go.RowKit

theorem mapR_set {N i:Nat} {f g:Nat→Int} {v:Int} (hi:i<N) (hv:g i=v) (h:∀n,n<N→n≠i→g n=f n):((List.range N).map f).set i v=(List.range N).map g:=by
 apply List.ext_getElem?
 intro j
 by_cases hj:j=i
 ·subst hj
  rw [List.getElem?_set_self (by simpa using hi),List.getElem?_map,List.getElem?_range hi,Option.map_some,hv]
 ·rw [List.getElem?_set_ne (by omega),List.getElem?_map,List.getElem?_map]
  rcases Nat.lt_or_ge j N with h1|h1
  ·rw [List.getElem?_range h1,Option.map_some,Option.map_some,h j h1 hj]
  ·rw [List.getElem?_eq_none (by simpa using h1)]
   rfl
theorem mapR_same {N:Nat} {f g:Nat→Int} (h:∀n,n<N→g n=f n):(List.range N).map f=(List.range N).map g:=by
 apply List.map_congr_left
 intro n hn
 exact (h n (List.mem_range.1 hn)).symm
/-- The node of pin p of tile t, apart from all other nodes. -/
theorem node_apart {P t p:Int} {n:Nat} (hn:(n:Int) / P=t) (hm:(n:Int) % P=p):(n:Int)=t * P+p:=by
 have:=Int.mul_ediv_add_emod (n:Int) P
 rw [hn,hm,Int.mul_comm] at this
 omega
/-! ### inputs -/
def F1 (d:Dev) (ts:List Tile) (k:Nat) (n:Nat):Int:=if (n:Int) % perT d=5∧(n:Int) / perT d<(k:Int)∧padQ d ts 1 ((n:Int) / perT d).toNat=true then numF 1 (padTo d ts 1 k) ((n:Int) / perT d) else 0
theorem F1_zero (d:Dev) (ts:List Tile) (N:Nat) (hd:devOk d=true):(List.range N).map (F1 d ts 0)=List.replicate N 0:=by
 apply List.ext_getElem?
 intro i
 rw [List.getElem?_map]
 rcases Nat.lt_or_ge i N with h|h
 ·rw [List.getElem?_range h,Option.map_some,List.getElem?_replicate,if_pos h,F1,if_neg]
  rintro ⟨_,h1,_⟩
  have h2:=Int.ediv_nonneg (a:=(i:Int)) (b:=perT d) (by omega) (by have:=perT_bd hd;omega)
  omega
 ·rw [List.getElem?_eq_none (by simpa using h),List.getElem?_replicate,if_neg (by omega)]
  rfl
theorem F1_no {d:Dev} {ts:List Tile} {k:Nat} (h:padQ d ts 1 k=false) (n:Nat):F1 d ts (k+1) n=F1 d ts k n:=by
 have e:padTo d ts 1 (k+1)=padTo d ts 1 k:=by rw [padTo,h];simp
 unfold F1
 rw [e]
 by_cases hk:(n:Int) / perT d=(k:Int)
 ·rw [hk,Int.toNat_natCast,h,if_neg (by simp),if_neg (by simp)]
 ·congr 1
  apply propext
  constructor
  ·rintro ⟨a,b,c⟩;exact ⟨a,by omega,c⟩
  ·rintro ⟨a,b,c⟩;exact ⟨a,by omega,c⟩
theorem F1_yes {d:Dev} {ts:List Tile} {k N:Nat} (hd:devOk d=true) (h:padQ d ts 1 k=true) {i:Nat} (hi:(i:Int)=(k:Int) * perT d+5) (hN:i<N) :
  ((List.range N).map (F1 d ts k)).set i (1+((padTo d ts 1 k).length:Int))=(List.range N).map (F1 d ts (k+1)):=by
 have hp:=perT_bd hd
 have e:padTo d ts 1 (k+1)=padTo d ts 1 k++[(k:Int)]:=by rw [padTo,h];rfl
 have hm:=divmod_of (a:=(i:Int)) (b:=perT d) (q:=(k:Int)) (r:=5) hi (by omega) (by omega)
 refine mapR_set hN ?_ fun n _ hne=>?_
 ·unfold F1
  rw [hm.1,hm.2,Int.toNat_natCast,if_pos ⟨rfl,by omega,h⟩,e,numF_snoc (padTo_new d ts 1 k),if_pos rfl]
 ·unfold F1
  by_cases h5:(n:Int) % perT d=5
  ·by_cases hk:(n:Int) / perT d=(k:Int)
   ·have:=node_apart hk h5
    omega
   ·rw [e,numF_snoc (padTo_new d ts 1 k),if_neg hk]
    congr 1
    apply propext
    constructor
    ·rintro ⟨a,b,c⟩;exact ⟨a,by omega,c⟩
    ·rintro ⟨a,b,c⟩;exact ⟨a,by omega,c⟩
  ·rw [if_neg (by rintro ⟨a,_⟩;exact h5 a),if_neg (by rintro ⟨a,_⟩;exact h5 a)]
/-! ### flip-flops and memories -/
/-- All pins whose number is below c are entered; L: the owners so far. -/
def F2 (d:Dev) (ts:List Tile) (L:List Int) (c:Int) (n:Nat):Int :=
 if ((n:Int) % perT d=5∨(n:Int) % perT d=6)∧kindOf d ((n:Int) / perT d)=1∧2 * ((n:Int) / perT d)+((n:Int) % perT d - 5)<c then
  (if (leX ts (2 * ((n:Int) / perT d)+((n:Int) % perT d - 5))).flop=1 then numF (sqB d ts) L (2 * ((n:Int) / perT d)+((n:Int) % perT d - 5)) else -1)
 else if (n:Int) % perT d=5∧kindOf d ((n:Int) / perT d)=2∧2 * ((n:Int) / perT d)<c then numF (sqB d ts) L (2 * ((n:Int) / perT d))
 else F1 d ts ts.length n
theorem F2_a {d:Dev} {ts:List Tile} {L:List Int} {c:Int} {n:Nat} (h:(((n:Int) % perT d=5∨(n:Int) % perT d=6)∧kindOf d ((n:Int) / perT d)=1∧2 * ((n:Int) / perT d)+((n:Int) % perT d - 5)<c)):F2 d ts L c n=if (leX ts (2 * ((n:Int) / perT d)+((n:Int) % perT d - 5))).flop=1 then numF (sqB d ts) L (2 * ((n:Int) / perT d)+((n:Int) % perT d - 5)) else -1:=by unfold F2;rw [if_pos h]
theorem F2_b {d:Dev} {ts:List Tile} {L:List Int} {c:Int} {n:Nat} (h:¬(((n:Int) % perT d=5∨(n:Int) % perT d=6)∧kindOf d ((n:Int) / perT d)=1∧2 * ((n:Int) / perT d)+((n:Int) % perT d - 5)<c)) (h2:((n:Int) % perT d=5∧kindOf d ((n:Int) / perT d)=2∧2 * ((n:Int) / perT d)<c)):F2 d ts L c n=numF (sqB d ts) L (2 * ((n:Int) / perT d)):=by unfold F2;rw [if_neg h,if_pos h2]
theorem F2_c {d:Dev} {ts:List Tile} {L:List Int} {c:Int} {n:Nat} (h:¬(((n:Int) % perT d=5∨(n:Int) % perT d=6)∧kindOf d ((n:Int) / perT d)=1∧2 * ((n:Int) / perT d)+((n:Int) % perT d - 5)<c)) (h2:¬((n:Int) % perT d=5∧kindOf d ((n:Int) / perT d)=2∧2 * ((n:Int) / perT d)<c)):F2 d ts L c n=F1 d ts ts.length n:=by unfold F2;rw [if_neg h,if_neg h2]
theorem F2_zero (d:Dev) (ts:List Tile) (N:Nat) (hd:devOk d=true):(List.range N).map (F1 d ts ts.length)=(List.range N).map (F2 d ts [] 0):=mapR_same fun n _=>by
 have h2:=Int.ediv_nonneg (a:=(n:Int)) (b:=perT d) (by omega) (by have:=perT_bd hd;omega)
 unfold F2
 rw [if_neg (by omega),if_neg (by omega)]
theorem F2_le_eq {d:Dev} {ts:List Tile} {L L':List Int} {k e:Int} (hd:devOk d=true) (hk:kindOf d k=1) (he:e=0∨e=1) {n:Nat} (hne:(n:Int)≠k * perT d+(5+e)) (hL:∀y,y≠2 * k+e→numF (sqB d ts) L' y=numF (sqB d ts) L y):F2 d ts L' (2 * k+e+1) n=F2 d ts L (2 * k+e) n:=by
 have hp:=perT_bd hd
 by_cases h5:(n:Int) % perT d=5∨(n:Int) % perT d=6
 ·by_cases h1:kindOf d ((n:Int) / perT d)=1
  ·have hq:2 * ((n:Int) / perT d)+((n:Int) % perT d - 5)≠2 * k+e:=fun h=>hne (node_apart (by omega) (by omega))
   by_cases hc:2 * ((n:Int) / perT d)+((n:Int) % perT d - 5)<2 * k+e
   ·rw [F2_a ⟨h5,h1,by omega⟩,F2_a ⟨h5,h1,hc⟩,hL _ hq]
   ·rw [F2_c (by rintro ⟨_,_,h⟩;omega) (by rintro ⟨_,h,_⟩;rw [h1] at h;omega),F2_c (by rintro ⟨_,_,h⟩;exact hc h) (by rintro ⟨_,h,_⟩;rw [h1] at h;omega)]
  ·have hA:∀c:Int,¬(((n:Int) % perT d=5∨(n:Int) % perT d=6)∧kindOf d ((n:Int) / perT d)=1∧2 * ((n:Int) / perT d)+((n:Int) % perT d - 5)<c):=fun c h=>h1 h.2.1
   by_cases h2:(n:Int) % perT d=5∧kindOf d ((n:Int) / perT d)=2
   ·have hq:(n:Int) / perT d≠k:=fun h=>by rw [h] at h1;exact h1 hk
    by_cases hc:2 * ((n:Int) / perT d)<2 * k+e
    ·rw [F2_b (hA _) ⟨h2.1,h2.2,by omega⟩,F2_b (hA _) ⟨h2.1,h2.2,hc⟩,hL _ (by omega)]
    ·rw [F2_c (hA _) (by rintro ⟨_,_,h⟩;omega),F2_c (hA _) (by rintro ⟨_,_,h⟩;exact hc h)]
   ·rw [F2_c (hA _) (by rintro ⟨a,b,_⟩;exact h2 ⟨a,b⟩),F2_c (hA _) (by rintro ⟨a,b,_⟩;exact h2 ⟨a,b⟩)]
 ·rw [F2_c (by rintro ⟨h,_⟩;exact h5 h) (by rintro ⟨h,_⟩;exact h5 (.inl h)),F2_c (by rintro ⟨h,_⟩;exact h5 h) (by rintro ⟨h,_⟩;exact h5 (.inl h))]
theorem F2_two_eq {d:Dev} {ts:List Tile} {L L':List Int} {k:Int} (hd:devOk d=true) (hk:kindOf d k≠1) {n:Nat} (hne:kindOf d k=2→(n:Int)≠k * perT d+5) (hL:∀y,y≠2 * k→numF (sqB d ts) L' y=numF (sqB d ts) L y):F2 d ts L' (2 * k+2) n=F2 d ts L (2 * k) n:=by
 have hp:=perT_bd hd
 by_cases h5:(n:Int) % perT d=5∨(n:Int) % perT d=6
 ·by_cases h1:kindOf d ((n:Int) / perT d)=1
  ·have hq:(n:Int) / perT d≠k:=fun h=>by rw [h] at h1;exact hk h1
   by_cases hc:2 * ((n:Int) / perT d)+((n:Int) % perT d - 5)<2 * k
   ·rw [F2_a ⟨h5,h1,by omega⟩,F2_a ⟨h5,h1,hc⟩,hL _ (by omega)]
   ·rw [F2_c (by rintro ⟨_,_,h⟩;omega) (by rintro ⟨_,h,_⟩;rw [h1] at h;omega),F2_c (by rintro ⟨_,_,h⟩;exact hc h) (by rintro ⟨_,h,_⟩;rw [h1] at h;omega)]
  ·have hA:∀c:Int,¬(((n:Int) % perT d=5∨(n:Int) % perT d=6)∧kindOf d ((n:Int) / perT d)=1∧2 * ((n:Int) / perT d)+((n:Int) % perT d - 5)<c):=fun c h=>h1 h.2.1
   by_cases h2:(n:Int) % perT d=5∧kindOf d ((n:Int) / perT d)=2
   ·have hq:(n:Int) / perT d≠k:=fun h=>by
     have h3:=h2.2
     rw [h] at h3
     have:=node_apart h h2.1
     exact hne h3 this
    by_cases hc:2 * ((n:Int) / perT d)<2 * k
    ·rw [F2_b (hA _) ⟨h2.1,h2.2,by omega⟩,F2_b (hA _) ⟨h2.1,h2.2,hc⟩,hL _ (by omega)]
    ·rw [F2_c (hA _) (by rintro ⟨_,_,h⟩;omega),F2_c (hA _) (by rintro ⟨_,_,h⟩;exact hc h)]
   ·rw [F2_c (hA _) (by rintro ⟨a,b,_⟩;exact h2 ⟨a,b⟩),F2_c (hA _) (by rintro ⟨a,b,_⟩;exact h2 ⟨a,b⟩)]
 ·rw [F2_c (by rintro ⟨h,_⟩;exact h5 h) (by rintro ⟨h,_⟩;exact h5 (.inl h)),F2_c (by rintro ⟨h,_⟩;exact h5 h) (by rintro ⟨h,_⟩;exact h5 (.inl h))]
theorem F2_le_yes {d:Dev} {ts:List Tile} {L:List Int} {k e:Int} {N i:Nat} (hd:devOk d=true) (hk:kindOf d k=1) (he:e=0∨e=1) (hf:(leX ts (2 * k+e)).flop=1) (hx:2 * k+e∉L) (hi:(i:Int)=k * perT d+(5+e)) (hN:i<N) :
  ((List.range N).map (F2 d ts L (2 * k+e))).set i (sqB d ts+(L.length:Int))=(List.range N).map (F2 d ts (L++[2 * k+e]) (2 * k+e+1)):=by
 have hp:=perT_bd hd
 have hm:=divmod_of (a:=(i:Int)) (b:=perT d) (q:=k) (r:=5+e) hi (by omega) (by omega)
 refine mapR_set hN ?_ fun n _ hne=>F2_le_eq hd hk he (by omega) fun y hy=>by rw [numF_snoc hx,if_neg hy]
 unfold F2
 rw [hm.1,hm.2,show 5+e - 5=e by omega,if_pos ⟨by omega,hk,by omega⟩,if_pos hf,numF_snoc hx,if_pos rfl]
theorem F2_le_no {d:Dev} {ts:List Tile} {L:List Int} {k e:Int} {N i:Nat} (hd:devOk d=true) (hk:kindOf d k=1) (he:e=0∨e=1) (hf:¬(leX ts (2 * k+e)).flop=1) (hi:(i:Int)=k * perT d+(5+e)) (hN:i<N) :
  ((List.range N).map (F2 d ts L (2 * k+e))).set i (-1)=(List.range N).map (F2 d ts L (2 * k+e+1)):=by
 have hp:=perT_bd hd
 have hm:=divmod_of (a:=(i:Int)) (b:=perT d) (q:=k) (r:=5+e) hi (by omega) (by omega)
 refine mapR_set hN ?_ fun n _ hne=>F2_le_eq hd hk he (by omega) fun y _=>rfl
 unfold F2
 rw [hm.1,hm.2,show 5+e - 5=e by omega,if_pos ⟨by omega,hk,by omega⟩,if_neg hf]
theorem F2_ram {d:Dev} {ts:List Tile} {L:List Int} {k:Int} {N i:Nat} (hd:devOk d=true) (hk:kindOf d k=2) (hx:2 * k∉L) (hi:(i:Int)=k * perT d+5) (hN:i<N) :
  ((List.range N).map (F2 d ts L (2 * k))).set i (sqB d ts+(L.length:Int))=(List.range N).map (F2 d ts (L++[2 * k]) (2 * k+2)):=by
 have hp:=perT_bd hd
 have hm:=divmod_of (a:=(i:Int)) (b:=perT d) (q:=k) (r:=5) hi (by omega) (by omega)
 refine mapR_set hN ?_ fun n _ hne=>F2_two_eq hd (by omega) (fun _=>by omega) fun y hy=>by rw [numF_snoc hx,if_neg hy]
 unfold F2
 rw [hm.1,hm.2,if_neg (by rintro ⟨_,h,_⟩;rw [hk] at h;omega),if_pos ⟨rfl,hk,by omega⟩,numF_snoc hx,if_pos rfl]
theorem F2_io {d:Dev} {ts:List Tile} {L:List Int} {k:Int} {N:Nat} (hd:devOk d=true) (hk:kindOf d k=0):(List.range N).map (F2 d ts L (2 * k))=(List.range N).map (F2 d ts L (2 * k+2)) :=
 mapR_same fun n _=>F2_two_eq hd (by omega) (fun h=>by omega) fun y _=>rfl
/-! ### look-up tables -/
def F3 (d:Dev) (ts:List Tile) (pl:List Int) (n:Nat):Int :=
 if ((n:Int) % perT d=5∨(n:Int) % perT d=6)∧kindOf d ((n:Int) / perT d)=1∨(n:Int) % perT d=5 then ndP d ts pl ((n:Int) / perT d) ((n:Int) % perT d - 5) else 0
end Go.Proofs.YtignkfhdkcgkgaaGreat

namespace Go.Proofs.YtignkfhdkcgkgaaGreat
set_option maxRecDepth 100000
open Go.RowKit

theorem find_least {p:Int→Bool}:∀{l:List Int} {x:Int},Asc l→x∈l→p x=true→(∀y∈l,y<x→p y=false)→l.find? p=some x
 | [],x,_,hx,_,_=>by simp at hx
 | a :: l,x,ha,hx,hp,hl=>by
  unfold Asc at ha
  rw [List.pairwise_cons] at ha
  rw [List.find?_cons]
  rcases List.mem_cons.1 hx with rfl|hx
  ·rw [hp]
  ·rw [hl a (by simp) (ha.1 x hx)]
   exact find_least ha.2 hx hp fun y hy h=>hl y (by simp [hy]) h
theorem pick_eq (d:Dev) (ts:List Tile) (pl:List Int):pick d ts pl=(lgL d ts).find? fun x=>decide (x∉pl) && known d ts pl x:=by
 unfold pick todoF
 rw [List.find?_filter]
 congr 1
 funext x
 rw [Bool.eq_iff_iff]
 simp
theorem pick_some {d:Dev} {ts:List Tile} {pl:List Int} {x:Int} (h1:x∈lgL d ts) (h2:x∉pl) (h3:known d ts pl x=true) (h4:∀y∈lgL d ts,y<x→y∈pl∨known d ts pl y=false):pick d ts pl=some x:=by
 rw [pick_eq]
 refine find_least (lgTo_asc d _) h1 (by rw [h3,decide_eq_true h2];rfl) fun y hy hlt=>?_
 rcases h4 y hy hlt with h|h
 ·rw [decide_eq_false (by simpa using h)];rfl
 ·rw [h,Bool.and_false]
theorem pick_none {d:Dev} {ts:List Tile} {pl:List Int} (h4:∀y∈lgL d ts,y∈pl∨known d ts pl y=false):pick d ts pl=none:=by
 rw [pick_eq,List.find?_eq_none]
 intro y hy
 rcases h4 y hy with h|h
 ·simp [h]
 ·simp [h]
/-! ### the nodes behind look-up tables -/
theorem F3_ok {d:Dev} {ts:List Tile} {pl:List Int} {N:Nat} (hN:(N:Int)=nodesOf d):NodesOf d ts pl ((List.range N).map (F3 d ts pl)):=fun n hn h5 hop=>by
 have hnn:=(nodeIn_rnP.1 hn).2.2
 rw [List.getElem?_map,List.getElem?_range (by omega),Option.map_some,Option.getD_some,F3]
 have hk:=kindOf_bd d ((n:Int) / perT d)
 rw [if_pos]
 rcases h5 with h|h
 ·exact .inr h
 ·refine .inl ⟨.inr h,?_⟩
  unfold outPins at hop
  rcases hk with hk|hk|hk <;> simp [hk,h] at hop ⊢
theorem F3_yes {d:Dev} {ts:List Tile} {pl:List Int} {n:Nat} (h:(((n:Int) % perT d=5∨(n:Int) % perT d=6)∧kindOf d ((n:Int) / perT d)=1∨(n:Int) % perT d=5)):F3 d ts pl n=ndP d ts pl ((n:Int) / perT d) ((n:Int) % perT d - 5):=if_pos h
theorem F3_no {d:Dev} {ts:List Tile} {pl:List Int} {n:Nat} (h:¬(((n:Int) % perT d=5∨(n:Int) % perT d=6)∧kindOf d ((n:Int) / perT d)=1∨(n:Int) % perT d=5)):F3 d ts pl n=0:=if_neg h
theorem F1_far {d:Dev} {ts:List Tile} {k n:Nat} (h:¬(n:Int) % perT d=5):F1 d ts k n=0:=if_neg fun h1=>h h1.1
theorem F3_start {d:Dev} {ts:List Tile} {m N:Nat} (hc:CfgOk d ts) (htm:ts.length=m) (hN:(N:Int)=nodesOf d):(List.range N).map (F2 d ts (owL d ts) (2 * (m:Int)))=(List.range N).map (F3 d ts []):=mapR_same fun n hn=>by
 have hd:=hc.dev
 have hp:=perT_bd hd
 have hni:nodeIn d (n:Int)=true:=nodeIn_rnP.2 ⟨hd,by omega,by omega⟩
 have ht:=node_tile hni
 obtain ⟨_,t0,t1⟩:=tileIn_iff.1 ht
 have htq:=tiles_eq hd
 have hcl:=hc.len
 have hk:=kindOf_bd d ((n:Int) / perT d)
 by_cases h5:(n:Int) % perT d=5∨(n:Int) % perT d=6
 ·rcases hk with hk|hk|hk
  ·rw [F2_c (by rintro ⟨_,h,_⟩;omega) (by rintro ⟨_,h,_⟩;omega),F1]
   by_cases h6:(n:Int) % perT d=5
   ·rw [F3_yes (.inr h6),ndP,if_pos hk]
    by_cases hq:padQ d ts 1 ((n:Int) / perT d).toNat=true
    ·rw [if_pos ⟨h6,by omega,hq⟩];rfl
    ·rw [if_neg (by rintro ⟨_,_,h⟩;exact hq h),insL,numF,if_neg]
     intro hm
     exact hq (padTo_in hm).2.2
   ·rw [F3_no (fun h=>by rcases h with ⟨_,h⟩|h;omega;exact h6 h),if_neg (fun h=>h6 h.1)]
  ·rw [F2_a ⟨h5,hk,by omega⟩,F3_yes (.inl ⟨h5,hk⟩),ndP,if_neg (by omega),if_neg (by omega)]
   simp
  ·by_cases h6:(n:Int) % perT d=5
   ·rw [F2_b (by rintro ⟨_,h,_⟩;omega) ⟨h6,hk,by omega⟩,F3_yes (.inr h6),ndP,if_neg (by omega),if_pos hk]
   ·rw [F2_c (by rintro ⟨_,h,_⟩;omega) (by rintro ⟨h,_⟩;exact h6 h),F1_far h6,F3_no (fun h=>by rcases h with ⟨_,h⟩|h;omega;exact h6 h)]
 ·rw [F2_c (by rintro ⟨h,_⟩;exact h5 h) (by rintro ⟨h,_⟩;exact h5 (.inl h)),F1_far fun h=>h5 (.inl h),F3_no (fun h=>by rcases h with ⟨h,_⟩|h;exact h5 h;exact h5 (.inl h))]
theorem ndP_snoc {d:Dev} {ts:List Tile} {pl:List Int} {x t p:Int} (hx:x∉pl) (h:kindOf d t=0∨kindOf d t=2∨(leX ts (2 * t+p)).flop=1∨2 * t+p≠x):ndP d ts (pl++[x]) t p=ndP d ts pl t p:=by
 unfold ndP
 by_cases h0:kindOf d t=0
 ·rw [if_pos h0,if_pos h0]
 ·by_cases h2:kindOf d t=2
  ·rw [if_neg h0,if_neg h0,if_pos h2,if_pos h2]
  ·by_cases h3:(leX ts (2 * t+p)).flop=1
   ·rw [if_neg h0,if_neg h0,if_neg h2,if_neg h2,if_pos h3,if_pos h3]
   ·have hne:2 * t+p≠x:=by
     rcases h with h|h|h|h
     ·exact absurd h h0
     ·exact absurd h h2
     ·exact absurd h h3
     ·exact h
    rw [if_neg h0,if_neg h0,if_neg h2,if_neg h2,if_neg h3,if_neg h3,numF_snoc hx,if_neg hne]
    have e:(2 * t+p∈pl++[x])=(2 * t+p∈pl):=by simp [hne]
    simp only [e]
theorem F3_flop {d:Dev} {ts:List Tile} {pl:List Int} {x:Int} {N:Nat} (hx:x∉pl) (hf:(leX ts x).flop=1):(List.range N).map (F3 d ts pl)=(List.range N).map (F3 d ts (pl++[x])):=mapR_same fun n _=>by
 unfold F3
 rw [ndP_snoc hx]
 by_cases e:2 * ((n:Int) / perT d)+((n:Int) % perT d - 5)=x
 ·exact .inr (.inr (.inl (by rw [e];exact hf)))
 ·exact .inr (.inr (.inr e))
theorem F3_set {d:Dev} {ts:List Tile} {pl:List Int} {t p:Int} {N i:Nat} (hd:devOk d=true) (hk:kindOf d t=1) (hp:p=0∨p=1) (hx:2 * t+p∉pl) (hf:¬(leX ts (2 * t+p)).flop=1) (hi:(i:Int)=t * perT d+(5+p)) (hN:i<N) :
  ((List.range N).map (F3 d ts pl)).set i (ltB d ts+(pl.length:Int))=(List.range N).map (F3 d ts (pl++[2 * t+p])):=by
 have hpb:=perT_bd hd
 have hm:=divmod_of (a:=(i:Int)) (b:=perT d) (q:=t) (r:=5+p) hi (by omega) (by omega)
 refine mapR_set hN ?_ fun n _ hne=>?_
 ·rw [F3_yes (.inl ⟨by omega,by rw [hm.1];exact hk⟩),hm.1,hm.2,show 5+p - 5=p by omega,ndP,if_neg (by omega),if_neg (by omega),if_neg hf,if_pos (by simp),numF_snoc hx,if_pos rfl]
 ·by_cases h:(((n:Int) % perT d=5∨(n:Int) % perT d=6)∧kindOf d ((n:Int) / perT d)=1∨(n:Int) % perT d=5)
  ·rw [F3_yes h,F3_yes h,ndP_snoc hx]
   by_cases e:2 * ((n:Int) / perT d)+((n:Int) % perT d - 5)=2 * t+p
   ·exfalso
    have h5:(n:Int) % perT d=5∨(n:Int) % perT d=6:=by rcases h with h|h;exact h.1;exact .inl h
    have:=node_apart (P:=perT d) (t:=t) (p:=5+p) (n:=n) (by omega) (by omega)
    omega
   ·exact .inr (.inr (.inr e))
  ·rw [F3_no h,F3_no h]
end Go.Proofs.YtignkfhdkcgkgaaGreat

namespace Go.Proofs.YtignkfhdkcgkgaaGreat
set_option maxRecDepth 100000
open Go.RowKit

/-- A loop within a loop. -/
def loopD (c:Code) (j:Nat):Code:=match c with
 | .loop c=>(loopsOf c)[j]?.getD .skip
 | _ => .skip
theorem knownTo_mono {d:Dev} {ts:List Tile} {pl:List Int} {x:Int} {k:Nat} (hk:k≤4) (h:knownTo d ts pl x k=false):known d ts pl x=false:=by
 unfold knownTo at h
 rw [List.all_eq_false] at h
 obtain ⟨j,hj,h⟩:=h
 rw [List.mem_range] at hj
 exact known_false (k:=j) (by omega) (by simpa using h)
/-- Loop 7's state: j selections are looked at. -/
def K7 (d:Dev) (ts:List Tile) (pl:List Int) (x:Int) (k0:Bool) (k:Nat) (kn:Bool) (ins:List Int):Prop:=kn=(k0 && knownTo d ts pl x k)∧(kn=true→ins=selTo d ts pl x k)
theorem K7.start (d:Dev) (ts:List Tile) (pl:List Int) (x:Int) (k0:Bool):K7 d ts pl x k0 0 k0 []:=⟨by simp [knownTo],fun _=>rfl⟩
theorem K7.next {d:Dev} {ts:List Tile} {pl:List Int} {x:Int} {k0:Bool} {k:Nat} {ins:List Int} {U:Int} (h:K7 d ts pl x k0 k true ins) (hU:U=selN d ts pl x k):K7 d ts pl x k0 (k+1) (decide (0≤U)) (ins++[U]):=by
 obtain ⟨h1,h2⟩:=h
 have h3:k0=true∧knownTo d ts pl x k=true:=by rw [←Bool.and_eq_true];exact h1.symm
 refine ⟨?_,fun _=>?_⟩
 ·rw [knownTo_succ,h3.1,h3.2,hU];simp
 ·rw [selTo_succ,h2 rfl,hU]
theorem K7.done {d:Dev} {ts:List Tile} {pl:List Int} {x:Int} {k0:Bool} {k:Nat} {kn:Bool} {ins:List Int} (h:K7 d ts pl x k0 k kn ins) (hk:k≤4) (he:k=4∨kn=false):K7 d ts pl x k0 4 kn ins:=by
 rcases he with rfl|rfl
 ·exact h
 ·refine ⟨?_,fun h=>by cases h⟩
  have h1:=h.1
  cases h0:k0 with
  | false=>simp
  | true =>
   rw [h0,Bool.true_and] at h1
   rw [Bool.true_and]
   exact (knownTo_mono hk h1.symm).symm
/-- How far the search for the next look-up table has come: c elements are looked at; fb: it is found. -/
def Srch (W wr:World) (d:Dev) (ts:List Tile) (pl:List Int) (lt:List Lt) (mk:List Int→List Lt→Option Addr→Nat→Nat→List Pc) (q:Nat) (LA:Option Addr) (lc:Nat) (c:Int) (fb:Bool):Prop :=
 if fb=true then ∃x LA' lc',pick d ts pl=some x∧Sepa W wr (mk (pl++[x]) (lt++[ltOf d ts pl x]) LA' (q+1) lc')
 else (∀y∈lgL d ts,y<c→y∈pl∨known d ts pl y=false)∧Sepa W wr (mk pl lt LA q lc)
theorem Srch.below {W wr w':World} {d:Dev} {ts:List Tile} {pl:List Int} {lt:List Lt} {mk:List Int→List Lt→Option Addr→Nat→Nat→List Pc} {q:Nat} {LA:Option Addr} {lc:Nat} {c:Int} {fb:Bool} (h:Srch W wr d ts pl lt mk q LA lc c fb) (hb:Below wr.heap.size wr w'):Srch W w' d ts pl lt mk q LA lc c fb:=by
 unfold Srch at *
 cases fb with
 | true =>
  rw [if_pos rfl] at h ⊢
  obtain ⟨x,A,c,h1,h2⟩:=h
  exact ⟨x,A,c,h1,h2.below hb⟩
 | false =>
  rw [if_neg (by simp)] at h ⊢
  exact ⟨h.1,h.2.below hb⟩
theorem Srch.bel {W wr:World} {d:Dev} {ts:List Tile} {pl:List Int} {lt:List Lt} {mk:List Int→List Lt→Option Addr→Nat→Nat→List Pc} {q:Nat} {LA:Option Addr} {lc:Nat} {c:Int} {fb:Bool} (h:Srch W wr d ts pl lt mk q LA lc c fb):Below W.heap.size W wr:=by
 unfold Srch at h
 cases fb with
 | true =>
  rw [if_pos rfl] at h
  obtain ⟨x,A,c,h1,h2⟩:=h
  exact h2.bel
 | false =>
  rw [if_neg (by simp)] at h
  exact h.2.bel
/-- One element more that is not to be placed. -/
theorem Srch.skip {W wr:World} {d:Dev} {ts:List Tile} {pl:List Int} {lt:List Lt} {mk:List Int→List Lt→Option Addr→Nat→Nat→List Pc} {q:Nat} {LA:Option Addr} {lc:Nat} {c c':Int} {fb:Bool} (h:Srch W wr d ts pl lt mk q LA lc c fb) (hc:∀y∈lgL d ts,c≤y→y<c'→y∈pl∨known d ts pl y=false):Srch W wr d ts pl lt mk q LA lc c' fb:=by
 unfold Srch at *
 cases fb with
 | true=>exact h
 | false =>
  rw [if_neg (by simp)] at h ⊢
  refine ⟨fun y hy hlt=>?_,h.2⟩
  rcases Int.lt_or_le y c with h1|h1
  ·exact h.1 y hy h1
  ·exact hc y hy h1 hlt
theorem Srch.hit {W wr:World} {d:Dev} {ts:List Tile} {pl:List Int} {lt:List Lt} {mk:List Int→List Lt→Option Addr→Nat→Nat→List Pc} {q:Nat} {LA LA':Option Addr} {lc lc':Nat} {x c:Int} (h4:∀y∈lgL d ts,y<x→y∈pl∨known d ts pl y=false) (h1:x∈lgL d ts) (h2:x∉pl) (h3:known d ts pl x=true) (hs:Sepa W wr (mk (pl++[x]) (lt++[ltOf d ts pl x]) LA' (q+1) lc')):Srch W wr d ts pl lt mk q LA lc c true:=by
 unfold Srch
 rw [if_pos rfl]
 exact ⟨x,LA',lc',pick_some h1 h2 h3 h4,hs⟩
theorem Srch.any {W wr:World} {d:Dev} {ts:List Tile} {pl:List Int} {lt:List Lt} {mk:List Int→List Lt→Option Addr→Nat→Nat→List Pc} {q:Nat} {LA:Option Addr} {lc:Nat} {c c':Int} (h:Srch W wr d ts pl lt mk q LA lc c true):Srch W wr d ts pl lt mk q LA lc c' true:=h
/-- The number of a look-up table is entered. -/
theorem luts_set {base:Int} {pl:List Int} {x:Int} {M i:Nat} (hx:x∉pl) (hi:(i:Int)=x) (hM:i<M) :
  ((List.range M).map fun (y:Nat)=>numF base pl (y:Int)).set i (base+(pl.length:Int))=(List.range M).map fun (y:Nat)=>numF base (pl++[x]) (y:Int) :=
 mapR_set hM (by show numF base (pl++[x]) (i:Int)=_;rw [hi,numF_snoc hx,if_pos rfl]) fun n _ hne=>by show numF base (pl++[x]) (n:Int)=_;rw [numF_snoc hx,if_neg (by omega)]
theorem luts_get {base:Int} {pl:List Int} {M i:Nat} (hM:i<M):((List.range M).map fun (y:Nat)=>numF base pl (y:Int))[i]?=some (numF base pl (i:Int)):=by
 rw [List.getElem?_map,List.getElem?_range hM];rfl
theorem ints_at0 {w:World} {g n j:Nat} {xs:List Int} {x:Int} (h:Ints w (some ⟨g,0,none⟩) n xs) (hx:xs[j]?=some x):w.cell? ⟨g,j,none⟩=some (.int .i64 x):=by
 have hj:j<n:=by rw [←h.1];exact (List.getElem?_eq_some_iff.1 hx).1
 obtain ⟨b,o,e,_,hc⟩:=h.2 (by omega)
 injection e with e
 injection e with e1 e2
 subst e1 e2
 have:=hc j hj
 rw [Nat.zero_add,hx] at this
 exact this
theorem Sepa.consNil {W w:World} {ps:List Pc} (h:Sepa W w ps) (e s:Nat):Sepa W w (.cel (.row e s []) (.slice none 0 0) :: ps) :=
 h.cons (Below.refl _ _) (G:=[]) (show OwnC w (.row e s []) (.slice none 0 0) [] by rw [ownC_row];exact ⟨none,0,0,[],[],rfl,⟨by simp,.inl ⟨rfl,rfl⟩⟩,rfl,ownL_nil.2 ⟨rfl,rfl⟩⟩) (by simp) (by simp)
theorem Sepa.lutCels {W w:World} {ps:List Pc} (h:Sepa W w ps) (i:Nat) {sl:List Int} {A:Option Addr} {n c:Nat} {mask:Int} (hi:ps[i]?=some (.cel (celI sl) (.slice A n c))):Sepa W w (ps.set i (.cels [celI sl,.int mask] [.slice A n c,.int .i64 mask])) :=
 h.same i hi fun F h=>ownL_cons.2 ⟨_,_,F,[],rfl,(List.append_nil _).symm,h,ownL_cons.2 ⟨_,_,[],[],rfl,rfl,ownC_int.2 ⟨rfl,rfl⟩,ownL_nil.2 ⟨rfl,rfl⟩⟩⟩
set_option maxHeartbeats 400000 in
theorem l20First_any (In:Int) (SA LA OA:Option Addr) (sn sc ln lc on oc:Nat) (w:World) (h0:0≤In) (h1:In≤1099511627776) (h2:sn≤1099511627776) :
  Calls Tryz.prog 71 #[.agg #[.int .i64 In,.slice SA sn sc,.slice LA ln lc,.slice OA on oc]] w fun e w'=>e = .returned (.int .i64 (1+In+(sn:Int)))∧Below w.heap.size w w':=by
 go_enter Tryz.func71,Tryz.ntmps71
 go_wp2
 go_ret
 exact ⟨rfl,below_new (Below.refl _ _) _⟩
end Go.Proofs.YtignkfhdkcgkgaaGreat
