/- The reference's search for the next look-up table, and what it keeps for each node. Plain lemmas. What the proofs of the fourth loop of the reference's Disassemble share. -/
import Derived.Deep.CutRange
import Derived.Deep.DeepCutAuto
import Derived.Test.YtignkfhdkcgkgaaDisF
import Derived.Test.YtignkfhdkcgkgaaRtS
import Derived.Test.YtignkfhdkcgkgaaSepN
namespace Go.Proofs.Ytignkfhdkcgkgaa
set_option maxRecDepth 100000
open Go.RowKit

theorem find_least {p:Int→Bool}:∀{l:List Int} {x:Int},Asc l→x∈l→p x=true→(∀y∈l,y<x→p y=false)→l.find? p=some x
 | [],x,_,hx,_,_=>by simp at hx
 | a :: l,x,ha,hx,hp,hl=>by
  unfold Asc at ha
  rw [List.pairwise_cons] at ha
  rw [List.find?_cons]
  rcases List.mem_cons.1 hx with rfl|hx
  ·rw [hp]
  ·rw [hl a (by simp) (ha.1 x hx)]
   exact find_least ha.2 hx hp fun y hy h=>hl y (by simp [hy]) h
theorem pick_eq (d:Dev) (ts:List Tile) (pl:List Int):pick d ts pl=(lgL d ts).find? fun x=>decide (x∉pl) && known d ts pl x:=by
 unfold pick todoF
 rw [List.find?_filter]
 congr 1
 funext x
 rw [Bool.eq_iff_iff]
 simp
theorem pick_some {d:Dev} {ts:List Tile} {pl:List Int} {x:Int} (h1:x∈lgL d ts) (h2:x∉pl) (h3:known d ts pl x=true) (h4:∀y∈lgL d ts,y<x→y∈pl∨known d ts pl y=false):pick d ts pl=some x:=by
 rw [pick_eq]
 refine find_least (lgTo_asc d _) h1 (by rw [h3,decide_eq_true h2];rfl) fun y hy hlt=>?_
 rcases h4 y hy hlt with h|h
 ·rw [decide_eq_false (by simpa using h)];rfl
 ·rw [h,Bool.and_false]
theorem pick_none {d:Dev} {ts:List Tile} {pl:List Int} (h4:∀y∈lgL d ts,y∈pl∨known d ts pl y=false):pick d ts pl=none:=by
 rw [pick_eq,List.find?_eq_none]
 intro y hy
 rcases h4 y hy with h|h
 ·simp [h]
 ·simp [h]
/-! ### the nodes behind look-up tables -/
theorem F3_ok {d:Dev} {ts:List Tile} {pl:List Int} {N:Nat} (hN:(N:Int)=nodesOf d):NodesOf d ts pl ((List.range N).map (F3 d ts pl)):=fun n hn h5 hop=>by
 have hnn:=(nodeIn_rnP.1 hn).2.2
 rw [List.getElem?_map,List.getElem?_range (by omega),Option.map_some,Option.getD_some,F3]
 have hk:=kindOf_bd d ((n:Int) / perT d)
 rw [if_pos]
 rcases h5 with h|h
 ·exact .inr h
 ·refine .inl ⟨.inr h,?_⟩
  unfold outPins at hop
  rcases hk with hk|hk|hk <;> simp [hk,h] at hop ⊢
theorem F3_yes {d:Dev} {ts:List Tile} {pl:List Int} {n:Nat} (h:(((n:Int) % perT d=5∨(n:Int) % perT d=6)∧kindOf d ((n:Int) / perT d)=1∨(n:Int) % perT d=5)):F3 d ts pl n=ndP d ts pl ((n:Int) / perT d) ((n:Int) % perT d - 5):=if_pos h
theorem F3_no {d:Dev} {ts:List Tile} {pl:List Int} {n:Nat} (h:¬(((n:Int) % perT d=5∨(n:Int) % perT d=6)∧kindOf d ((n:Int) / perT d)=1∨(n:Int) % perT d=5)):F3 d ts pl n=0:=if_neg h
theorem F1_far {d:Dev} {ts:List Tile} {k n:Nat} (h:¬(n:Int) % perT d=5):F1 d ts k n=0:=if_neg fun h1=>h h1.1
theorem F3_start {d:Dev} {ts:List Tile} {m N:Nat} (hc:CfgOk d ts) (htm:ts.length=m) (hN:(N:Int)=nodesOf d):(List.range N).map (F2 d ts (owL d ts) (2 * (m:Int)))=(List.range N).map (F3 d ts []):=mapR_same fun n hn=>by
 have hd:=hc.dev
 have hp:=perT_bd hd
 have hni:nodeIn d (n:Int)=true:=nodeIn_rnP.2 ⟨hd,by omega,by omega⟩
 have ht:=node_tile hni
 obtain ⟨_,t0,t1⟩:=tileIn_iff.1 ht
 have htq:=tiles_eq hd
 have hcl:=hc.len
 have hk:=kindOf_bd d ((n:Int) / perT d)
 by_cases h5:(n:Int) % perT d=5∨(n:Int) % perT d=6
 ·rcases hk with hk|hk|hk
  ·rw [F2_c (by rintro ⟨_,h,_⟩;omega) (by rintro ⟨_,h,_⟩;omega),F1]
   by_cases h6:(n:Int) % perT d=5
   ·rw [F3_yes (.inr h6),ndP,if_pos hk]
    by_cases hq:padQ d ts 1 ((n:Int) / perT d).toNat=true
    ·rw [if_pos ⟨h6,by omega,hq⟩];rfl
    ·rw [if_neg (by rintro ⟨_,_,h⟩;exact hq h),insL,numF,if_neg]
     intro hm
     exact hq (padTo_in hm).2.2
   ·rw [F3_no (fun h=>by rcases h with ⟨_,h⟩|h;omega;exact h6 h),if_neg (fun h=>h6 h.1)]
  ·rw [F2_a ⟨h5,hk,by omega⟩,F3_yes (.inl ⟨h5,hk⟩),ndP,if_neg (by omega),if_neg (by omega)]
   simp
  ·by_cases h6:(n:Int) % perT d=5
   ·rw [F2_b (by rintro ⟨_,h,_⟩;omega) ⟨h6,hk,by omega⟩,F3_yes (.inr h6),ndP,if_neg (by omega),if_pos hk]
   ·rw [F2_c (by rintro ⟨_,h,_⟩;omega) (by rintro ⟨h,_⟩;exact h6 h),F1_far h6,F3_no (fun h=>by rcases h with ⟨_,h⟩|h;omega;exact h6 h)]
 ·rw [F2_c (by rintro ⟨h,_⟩;exact h5 h) (by rintro ⟨h,_⟩;exact h5 (.inl h)),F1_far fun h=>h5 (.inl h),F3_no (fun h=>by rcases h with ⟨h,_⟩|h;exact h5 h;exact h5 (.inl h))]
theorem ndP_snoc {d:Dev} {ts:List Tile} {pl:List Int} {x t p:Int} (hx:x∉pl) (h:kindOf d t=0∨kindOf d t=2∨(leX ts (2 * t+p)).flop=1∨2 * t+p≠x):ndP d ts (pl++[x]) t p=ndP d ts pl t p:=by
 unfold ndP
 by_cases h0:kindOf d t=0
 ·rw [if_pos h0,if_pos h0]
 ·by_cases h2:kindOf d t=2
  ·rw [if_neg h0,if_neg h0,if_pos h2,if_pos h2]
  ·by_cases h3:(leX ts (2 * t+p)).flop=1
   ·rw [if_neg h0,if_neg h0,if_neg h2,if_neg h2,if_pos h3,if_pos h3]
   ·have hne:2 * t+p≠x:=by
     rcases h with h|h|h|h
     ·exact absurd h h0
     ·exact absurd h h2
     ·exact absurd h h3
     ·exact h
    rw [if_neg h0,if_neg h0,if_neg h2,if_neg h2,if_neg h3,if_neg h3,numF_snoc hx,if_neg hne]
    have e:(2 * t+p∈pl++[x])=(2 * t+p∈pl):=by simp [hne]
    simp only [e]
theorem F3_flop {d:Dev} {ts:List Tile} {pl:List Int} {x:Int} {N:Nat} (hx:x∉pl) (hf:(leX ts x).flop=1):(List.range N).map (F3 d ts pl)=(List.range N).map (F3 d ts (pl++[x])):=mapR_same fun n _=>by
 unfold F3
 rw [ndP_snoc hx]
 by_cases e:2 * ((n:Int) / perT d)+((n:Int) % perT d - 5)=x
 ·exact .inr (.inr (.inl (by rw [e];exact hf)))
 ·exact .inr (.inr (.inr e))
theorem F3_set {d:Dev} {ts:List Tile} {pl:List Int} {t p:Int} {N i:Nat} (hd:devOk d=true) (hk:kindOf d t=1) (hp:p=0∨p=1) (hx:2 * t+p∉pl) (hf:¬(leX ts (2 * t+p)).flop=1) (hi:(i:Int)=t * perT d+(5+p)) (hN:i<N) :
  ((List.range N).map (F3 d ts pl)).set i (ltB d ts+(pl.length:Int))=(List.range N).map (F3 d ts (pl++[2 * t+p])):=by
 have hpb:=perT_bd hd
 have hm:=divmod_of (a:=(i:Int)) (b:=perT d) (q:=t) (r:=5+p) hi (by omega) (by omega)
 refine mapR_set hN ?_ fun n _ hne=>?_
 ·rw [F3_yes (.inl ⟨by omega,by rw [hm.1];exact hk⟩),hm.1,hm.2,show 5+p - 5=p by omega,ndP,if_neg (by omega),if_neg (by omega),if_neg hf,if_pos (by simp),numF_snoc hx,if_pos rfl]
 ·by_cases h:(((n:Int) % perT d=5∨(n:Int) % perT d=6)∧kindOf d ((n:Int) / perT d)=1∨(n:Int) % perT d=5)
  ·rw [F3_yes h,F3_yes h,ndP_snoc hx]
   by_cases e:2 * ((n:Int) / perT d)+((n:Int) % perT d - 5)=2 * t+p
   ·exfalso
    have h5:(n:Int) % perT d=5∨(n:Int) % perT d=6:=by rcases h with h|h;exact h.1;exact .inl h
    have:=node_apart (P:=perT d) (t:=t) (p:=5+p) (n:=n) (by omega) (by omega)
    omega
   ·exact .inr (.inr (.inr e))
  ·rw [F3_no h,F3_no h]
end Go.Proofs.Ytignkfhdkcgkgaa

namespace Go.Proofs.Ytignkfhdkcgkgaa
set_option maxRecDepth 100000
open Go.RowKit

/-- A loop within a loop. -/
def loopD (c:Code) (j:Nat):Code:=match c with
 | .loop c=>(loopsOf c)[j]?.getD .skip
 | _ => .skip
theorem knownTo_mono {d:Dev} {ts:List Tile} {pl:List Int} {x:Int} {k:Nat} (hk:k≤4) (h:knownTo d ts pl x k=false):known d ts pl x=false:=by
 unfold knownTo at h
 rw [List.all_eq_false] at h
 obtain ⟨j,hj,h⟩:=h
 rw [List.mem_range] at hj
 exact known_false (k:=j) (by omega) (by simpa using h)
/-- Loop 7's state: j selections are looked at. -/
def K7 (d:Dev) (ts:List Tile) (pl:List Int) (x:Int) (k0:Bool) (k:Nat) (kn:Bool) (ins:List Int):Prop:=kn=(k0 && knownTo d ts pl x k)∧(kn=true→ins=selTo d ts pl x k)
theorem K7.start (d:Dev) (ts:List Tile) (pl:List Int) (x:Int) (k0:Bool):K7 d ts pl x k0 0 k0 []:=⟨by simp [knownTo],fun _=>rfl⟩
theorem K7.next {d:Dev} {ts:List Tile} {pl:List Int} {x:Int} {k0:Bool} {k:Nat} {ins:List Int} {U:Int} (h:K7 d ts pl x k0 k true ins) (hU:U=selN d ts pl x k):K7 d ts pl x k0 (k+1) (decide (0≤U)) (ins++[U]):=by
 obtain ⟨h1,h2⟩:=h
 have h3:k0=true∧knownTo d ts pl x k=true:=by rw [←Bool.and_eq_true];exact h1.symm
 refine ⟨?_,fun _=>?_⟩
 ·rw [knownTo_succ,h3.1,h3.2,hU];simp
 ·rw [selTo_succ,h2 rfl,hU]
theorem K7.done {d:Dev} {ts:List Tile} {pl:List Int} {x:Int} {k0:Bool} {k:Nat} {kn:Bool} {ins:List Int} (h:K7 d ts pl x k0 k kn ins) (hk:k≤4) (he:k=4∨kn=false):K7 d ts pl x k0 4 kn ins:=by
 rcases he with rfl|rfl
 ·exact h
 ·refine ⟨?_,fun h=>by cases h⟩
  have h1:=h.1
  cases h0:k0 with
  | false=>simp
  | true =>
   rw [h0,Bool.true_and] at h1
   rw [Bool.true_and]
   exact (knownTo_mono hk h1.symm).symm
/-- How far the search for the next look-up table has come: c elements are looked at; fb: it is found. -/
def Srch (W wr:World) (d:Dev) (ts:List Tile) (pl:List Int) (lt:List Lt) (mk:List Int→List Lt→Option Addr→Nat→Nat→List Pc) (q:Nat) (LA:Option Addr) (lc:Nat) (c:Int) (fb:Bool):Prop :=
 if fb=true then ∃x LA' lc',pick d ts pl=some x∧Sepa W wr (mk (pl++[x]) (lt++[ltOf d ts pl x]) LA' (q+1) lc')
 else (∀y∈lgL d ts,y<c→y∈pl∨known d ts pl y=false)∧Sepa W wr (mk pl lt LA q lc)
theorem Srch.below {W wr w':World} {d:Dev} {ts:List Tile} {pl:List Int} {lt:List Lt} {mk:List Int→List Lt→Option Addr→Nat→Nat→List Pc} {q:Nat} {LA:Option Addr} {lc:Nat} {c:Int} {fb:Bool} (h:Srch W wr d ts pl lt mk q LA lc c fb) (hb:Below wr.heap.size wr w'):Srch W w' d ts pl lt mk q LA lc c fb:=by
 unfold Srch at *
 cases fb with
 | true =>
  rw [if_pos rfl] at h ⊢
  obtain ⟨x,A,c,h1,h2⟩:=h
  exact ⟨x,A,c,h1,h2.below hb⟩
 | false =>
  rw [if_neg (by simp)] at h ⊢
  exact ⟨h.1,h.2.below hb⟩
theorem Srch.bel {W wr:World} {d:Dev} {ts:List Tile} {pl:List Int} {lt:List Lt} {mk:List Int→List Lt→Option Addr→Nat→Nat→List Pc} {q:Nat} {LA:Option Addr} {lc:Nat} {c:Int} {fb:Bool} (h:Srch W wr d ts pl lt mk q LA lc c fb):Below W.heap.size W wr:=by
 unfold Srch at h
 cases fb with
 | true =>
  rw [if_pos rfl] at h
  obtain ⟨x,A,c,h1,h2⟩:=h
  exact h2.bel
 | false =>
  rw [if_neg (by simp)] at h
  exact h.2.bel
/-- One element more that is not to be placed. -/
theorem Srch.skip {W wr:World} {d:Dev} {ts:List Tile} {pl:List Int} {lt:List Lt} {mk:List Int→List Lt→Option Addr→Nat→Nat→List Pc} {q:Nat} {LA:Option Addr} {lc:Nat} {c c':Int} {fb:Bool} (h:Srch W wr d ts pl lt mk q LA lc c fb) (hc:∀y∈lgL d ts,c≤y→y<c'→y∈pl∨known d ts pl y=false):Srch W wr d ts pl lt mk q LA lc c' fb:=by
 unfold Srch at *
 cases fb with
 | true=>exact h
 | false =>
  rw [if_neg (by simp)] at h ⊢
  refine ⟨fun y hy hlt=>?_,h.2⟩
  rcases Int.lt_or_le y c with h1|h1
  ·exact h.1 y hy h1
  ·exact hc y hy h1 hlt
theorem Srch.hit {W wr:World} {d:Dev} {ts:List Tile} {pl:List Int} {lt:List Lt} {mk:List Int→List Lt→Option Addr→Nat→Nat→List Pc} {q:Nat} {LA LA':Option Addr} {lc lc':Nat} {x c:Int} (h4:∀y∈lgL d ts,y<x→y∈pl∨known d ts pl y=false) (h1:x∈lgL d ts) (h2:x∉pl) (h3:known d ts pl x=true) (hs:Sepa W wr (mk (pl++[x]) (lt++[ltOf d ts pl x]) LA' (q+1) lc')):Srch W wr d ts pl lt mk q LA lc c true:=by
 unfold Srch
 rw [if_pos rfl]
 exact ⟨x,LA',lc',pick_some h1 h2 h3 h4,hs⟩
theorem Srch.any {W wr:World} {d:Dev} {ts:List Tile} {pl:List Int} {lt:List Lt} {mk:List Int→List Lt→Option Addr→Nat→Nat→List Pc} {q:Nat} {LA:Option Addr} {lc:Nat} {c c':Int} (h:Srch W wr d ts pl lt mk q LA lc c true):Srch W wr d ts pl lt mk q LA lc c' true:=h
/-- The number of a look-up table is entered. -/
theorem luts_set {base:Int} {pl:List Int} {x:Int} {M i:Nat} (hx:x∉pl) (hi:(i:Int)=x) (hM:i<M) :
  ((List.range M).map fun (y:Nat)=>numF base pl (y:Int)).set i (base+(pl.length:Int))=(List.range M).map fun (y:Nat)=>numF base (pl++[x]) (y:Int) :=
 mapR_set hM (by show numF base (pl++[x]) (i:Int)=_;rw [hi,numF_snoc hx,if_pos rfl]) fun n _ hne=>by show numF base (pl++[x]) (n:Int)=_;rw [numF_snoc hx,if_neg (by omega)]
theorem luts_get {base:Int} {pl:List Int} {M i:Nat} (hM:i<M):((List.range M).map fun (y:Nat)=>numF base pl (y:Int))[i]?=some (numF base pl (i:Int)):=by
 rw [List.getElem?_map,List.getElem?_range hM];rfl
theorem ints_at0 {w:World} {g n j:Nat} {xs:List Int} {x:Int} (h:Ints w (some ⟨g,0,none⟩) n xs) (hx:xs[j]?=some x):w.cell? ⟨g,j,none⟩=some (.int .i64 x):=by
 have hj:j<n:=by rw [←h.1];exact (List.getElem?_eq_some_iff.1 hx).1
 obtain ⟨b,o,e,_,hc⟩:=h.2 (by omega)
 injection e with e
 injection e with e1 e2
 subst e1 e2
 have:=hc j hj
 rw [Nat.zero_add,hx] at this
 exact this
theorem Sepa.consNil {W w:World} {ps:List Pc} (h:Sepa W w ps) (e s:Nat):Sepa W w (.cel (.row e s []) (.slice none 0 0) :: ps) :=
 h.cons (Below.refl _ _) (G:=[]) (show OwnC w (.row e s []) (.slice none 0 0) [] by rw [ownC_row];exact ⟨none,0,0,[],[],rfl,⟨by simp,.inl ⟨rfl,rfl⟩⟩,rfl,ownL_nil.2 ⟨rfl,rfl⟩⟩) (by simp) (by simp)
theorem Sepa.lutCels {W w:World} {ps:List Pc} (h:Sepa W w ps) (i:Nat) {sl:List Int} {A:Option Addr} {n c:Nat} {mask:Int} (hi:ps[i]?=some (.cel (celI sl) (.slice A n c))):Sepa W w (ps.set i (.cels [celI sl,.int mask] [.slice A n c,.int .i64 mask])) :=
 h.same i hi fun F h=>ownL_cons.2 ⟨_,_,F,[],rfl,(List.append_nil _).symm,h,ownL_cons.2 ⟨_,_,[],[],rfl,rfl,ownC_int.2 ⟨rfl,rfl⟩,ownL_nil.2 ⟨rfl,rfl⟩⟩⟩
set_option maxHeartbeats 400000 in
theorem l20First_any (In:Int) (SA LA OA:Option Addr) (sn sc ln lc on oc:Nat) (w:World) (h0:0≤In) (h1:In≤1099511627776) (h2:sn≤1099511627776) :
  Calls Try.prog 25 #[.agg #[.int .i64 In,.slice SA sn sc,.slice LA ln lc,.slice OA on oc]] w fun e w'=>e = .returned (.int .i64 (1+In+(sn:Int)))∧Below w.heap.size w w':=by
 go_enter Try.func25,Try.ntmps25
 go_wp2
 go_ret
 exact ⟨rfl,below_new (Below.refl _ _) _⟩
end Go.Proofs.Ytignkfhdkcgkgaa
