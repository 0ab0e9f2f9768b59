/- Reading a configured device back as a network of look-up tables: in plain terms. Plain lemmas; no function of the program is walked here. Numbered lists as maps that the call owns. The reference's trace: what is behind a node of a configured device. -/
import Derived.Maps.OwnOps
import Derived.Maps.OwnSet
import Derived.Test.YtignkfhdkcgkgaaGreatRq
namespace Go.Proofs.YtignkfhdkcgkgaaGreat
set_option maxRecDepth 100000
open Go.RowKit

/-- A sequential element, a look-up table, and a network of them. -/
structure Sq where
 kind:Int
 init:Int
 ins:List Int
structure Lt where
 ins:List Int
 mask:Int
structure LNet where
 inputs:Int
 seqs:List Sq
 luts:List Lt
 outs:List Int
def Sq.zero:Sq:=⟨0,0,[]⟩
def Lt.zero:Lt:=⟨[],0⟩
def LNet.zero:LNet:=⟨0,[],[],[]⟩

/-- The number of x, numbered from base on by the places of a list; 0 where it isn't in it. -/
def numF (base:Int) (l:List Int) (x:Int):Int:=if x∈l then base+((l.idxOf x:Nat):Int) else 0
theorem numF_snoc {base:Int} {l:List Int} {x:Int} (hx:x∉l) (y:Int):numF base (l++[x]) y=if y=x then base+(l.length:Int) else numF base l y:=by
 unfold numF
 by_cases e:y=x
 ·subst e
  rw [if_pos (by simp),if_pos rfl,List.idxOf_append,if_neg hx]
  simp
 ·by_cases hy:y∈l
  ·rw [if_pos (by simp [hy]),if_neg e,if_pos hy,List.idxOf_append,if_pos hy]
  ·rw [if_neg (by simp [hy,e]),if_neg e,if_neg hy]
theorem numF_nil (base:Int) (y:Int):numF base [] y=0:=by simp [numF]
theorem numF_bd {base:Int} {l:List Int} {x:Int} (hb:0≤base):0≤numF base l x∧numF base l x≤base+(l.length:Int):=by
 unfold numF
 split
 ·rename_i h
  have:=List.idxOf_lt_length_of_mem h
  omega
 ·omega
theorem numF_mem {base:Int} {l:List Int} {x:Int} (hb:0<base):0<numF base l x↔x∈l:=by
 unfold numF
 split
 ·rename_i h
  exact ⟨fun _=>h,fun _=>by omega⟩
 ·rename_i h
  exact ⟨fun h0=>by omega,fun h1=>absurd h1 h⟩

/-! ### tiles, elements -/
def leX (ts:List Tile) (x:Int):Le:=(tileAt ts (x / 2)).les[(x % 2).toNat]?.getD Le.zero
def padQ (d:Dev) (ts:List Tile) (p:Int) (j:Nat):Bool:=decide (kindOf d (j:Int)=0) && decide ((tileAt ts (j:Int)).pad=p)
def padTo (d:Dev) (ts:List Tile) (p:Int):Nat→List Int
 | 0=>[]
 | k+1=>padTo d ts p k++if padQ d ts p k=true then [(k:Int)] else []
def owAt (d:Dev) (ts:List Tile) (j:Nat):List Int :=
 if kindOf d (j:Int)=1 then (if (leX ts (2 * (j:Int))).flop=1 then [2 * (j:Int)] else [])++(if (leX ts (2 * (j:Int)+1)).flop=1 then [2 * (j:Int)+1] else [])
 else if kindOf d (j:Int)=2 then [2 * (j:Int)] else []
def owTo (d:Dev) (ts:List Tile):Nat→List Int
 | 0=>[]
 | k+1=>owTo d ts k++owAt d ts k
def lgTo (d:Dev):Nat→List Int
 | 0=>[]
 | k+1=>lgTo d k++if kindOf d (k:Int)=1 then [2 * (k:Int),2 * (k:Int)+1] else []
def insL (d:Dev) (ts:List Tile):List Int:=padTo d ts 1 ts.length
def outL (d:Dev) (ts:List Tile):List Int:=padTo d ts 2 ts.length
def owL (d:Dev) (ts:List Tile):List Int:=owTo d ts ts.length
def lgL (d:Dev) (ts:List Tile):List Int:=lgTo d ts.length
def sqB (d:Dev) (ts:List Tile):Int:=1+((insL d ts).length:Int)
def ltB (d:Dev) (ts:List Tile):Int:=1+((insL d ts).length:Int)+((owL d ts).length:Int)

theorem half_two (t:Int) {p:Int} (h0:0≤p) (h1:p≤1):(2 * t+p) / 2=t∧(2 * t+p) % 2=p:=by omega
theorem padTo_in {d:Dev} {ts:List Tile} {p:Int} {k:Nat} {x:Int} (h:x∈padTo d ts p k):0≤x∧x<(k:Int)∧padQ d ts p x.toNat=true:=by
 induction k with
 | zero=>simp [padTo] at h
 | succ k ih =>
  rw [padTo,List.mem_append] at h
  rcases h with h|h
  ·have:=ih h;exact ⟨this.1,by omega,this.2.2⟩
  ·split at h
   ·rename_i hq
    rw [List.mem_singleton] at h
    subst h
    exact ⟨by omega,by omega,by rw [Int.toNat_natCast];exact hq⟩
   ·simp at h
theorem padTo_length (d:Dev) (ts:List Tile) (p:Int) (k:Nat):(padTo d ts p k).length≤k:=by
 induction k with
 | zero=>simp [padTo]
 | succ k ih=>rw [padTo,List.length_append];split <;> simp <;> omega
theorem padTo_new (d:Dev) (ts:List Tile) (p:Int) (k:Nat):(k:Int)∉padTo d ts p k:=fun h=>by have:=(padTo_in h).2.1;omega
theorem owAt_in {d:Dev} {ts:List Tile} {j:Nat} {x:Int}:x∈owAt d ts j↔x / 2=(j:Int)∧((kindOf d (x / 2)=1∧(leX ts x).flop=1)∨(kindOf d (x / 2)=2∧x % 2=0)):=by
 unfold owAt
 have h2:x / 2=(j:Int)↔x=2 * (j:Int)∨x=2 * (j:Int)+1:=by omega
 have e0:(2 * (j:Int)) / 2=(j:Int):=by omega
 have e1:(2 * (j:Int)+1) / 2=(j:Int):=by omega
 split
 ·rename_i hk
  rw [List.mem_append]
  constructor
  ·rintro (h|h)
   ·split at h
    ·rename_i hf
     rw [List.mem_singleton] at h
     subst h
     exact ⟨e0,.inl ⟨by rw [e0];exact hk,hf⟩⟩
    ·simp at h
   ·split at h
    ·rename_i hf
     rw [List.mem_singleton] at h
     subst h
     exact ⟨e1,.inl ⟨by rw [e1];exact hk,hf⟩⟩
    ·simp at h
  ·rintro ⟨hx,h⟩
   rw [hx,hk] at h
   rcases h with ⟨_,h⟩|⟨h,_⟩
   ·rcases h2.1 hx with rfl|rfl
    ·exact .inl (by rw [if_pos h];simp)
    ·exact .inr (by rw [if_pos h];simp)
   ·omega
 ·rename_i hk
  split
  ·rename_i hk2
   rw [List.mem_singleton]
   constructor
   ·rintro rfl
    exact ⟨e0,.inr ⟨by rw [e0];exact hk2,by omega⟩⟩
   ·rintro ⟨hx,h⟩
    rw [hx,hk2] at h
    rcases h with ⟨h,_⟩|⟨_,h⟩ <;> omega
  ·rename_i hk2
   simp only [List.not_mem_nil,false_iff,not_and]
   intro hx
   rw [hx]
   rintro (⟨h,_⟩|⟨h,_⟩)
   ·exact hk h
   ·exact hk2 h
theorem owTo_in {d:Dev} {ts:List Tile} {k:Nat} {x:Int}:x∈owTo d ts k↔0≤x∧x<2 * (k:Int)∧((kindOf d (x / 2)=1∧(leX ts x).flop=1)∨(kindOf d (x / 2)=2∧x % 2=0)):=by
 induction k with
 | zero=>simp [owTo];omega
 | succ k ih =>
  rw [owTo,List.mem_append,ih,owAt_in]
  constructor
  ·rintro (h|h)
   ·exact ⟨h.1,by omega,h.2.2⟩
   ·exact ⟨by omega,by omega,h.2⟩
  ·rintro ⟨h0,h1,h2⟩
   rcases Int.lt_or_le x (2 * (k:Int)) with h|h
   ·exact .inl ⟨h0,h,h2⟩
   ·exact .inr ⟨by omega,h2⟩
theorem owAt_length (d:Dev) (ts:List Tile) (j:Nat):(owAt d ts j).length≤2:=by
 unfold owAt
 split
 ·rw [List.length_append];split <;> split <;> simp
 ·split <;> simp
theorem owTo_length (d:Dev) (ts:List Tile) (k:Nat):(owTo d ts k).length≤2 * k:=by
 induction k with
 | zero=>simp [owTo]
 | succ k ih=>rw [owTo,List.length_append];have:=owAt_length d ts k;omega
theorem lgTo_in {d:Dev} {k:Nat} {x:Int}:x∈lgTo d k↔0≤x∧x<2 * (k:Int)∧kindOf d (x / 2)=1:=by
 induction k with
 | zero=>simp [lgTo];omega
 | succ k ih =>
  rw [lgTo,List.mem_append,ih]
  have e0:(2 * (k:Int)) / 2=(k:Int):=by omega
  have e1:(2 * (k:Int)+1) / 2=(k:Int):=by omega
  constructor
  ·rintro (h|h)
   ·exact ⟨h.1,by omega,h.2.2⟩
   ·split at h
    ·rename_i hk
     simp only [List.mem_cons,List.not_mem_nil,or_false] at h
     rcases h with rfl|rfl
     ·exact ⟨by omega,by omega,by rw [e0];exact hk⟩
     ·exact ⟨by omega,by omega,by rw [e1];exact hk⟩
    ·simp at h
  ·rintro ⟨h0,h1,h2⟩
   rcases Int.lt_or_le x (2 * (k:Int)) with h|h
   ·exact .inl ⟨h0,h,h2⟩
   ·refine .inr ?_
    have hx:x / 2=(k:Int):=by omega
    rw [hx] at h2
    rw [if_pos h2]
    simp only [List.mem_cons,List.not_mem_nil,or_false]
    omega
theorem lgTo_asc (d:Dev) (k:Nat):Asc (lgTo d k):=by
 induction k with
 | zero=>simp [lgTo,Asc]
 | succ k ih =>
  unfold Asc at *
  rw [lgTo,List.pairwise_append]
  refine ⟨ih,?_,?_⟩
  ·split <;> simp;omega
  ·intro a ha b hb
   have h1:=(lgTo_in.1 ha).2.1
   split at hb
   ·simp only [List.mem_cons,List.not_mem_nil,or_false] at hb;omega
   ·simp at hb
theorem lgTo_length (d:Dev) (k:Nat):(lgTo d k).length≤2 * k:=by
 induction k with
 | zero=>simp [lgTo]
 | succ k ih=>rw [lgTo,List.length_append];split <;> simp <;> omega
theorem asc_nodup {l:List Int} (h:Asc l):l.Nodup:=h.imp fun h=>by omega

/-! ### what is behind a node -/
/-- The node of the network behind output pin p of tile t, when the look-up tables pl are placed; -1: not placed yet. -/
def ndP (d:Dev) (ts:List Tile) (pl:List Int) (t p:Int):Int :=
 if kindOf d t=0 then numF 1 (insL d ts) t
 else if kindOf d t=2 then numF (sqB d ts) (owL d ts) (2 * t)
 else if (leX ts (2 * t+p)).flop=1 then numF (sqB d ts) (owL d ts) (2 * t+p)
 else if 2 * t+p∈pl then numF (ltB d ts) pl (2 * t+p) else -1
/-- The trace from a node; -2: a circle. -/
def trF (d:Dev) (ts:List Tile) (pl:List Int):Nat→Int→Int
 | 0,_=>-2
 | f+1,n=>if n % perT d=5∨n % perT d=6 then ndP d ts pl (n / perT d) (n % perT d - 5) else if drvOf d ts n<0 then 0 else trF d ts pl f (drvOf d ts n)
def tr (d:Dev) (ts:List Tile) (pl:List Int) (n:Int):Int:=trF d ts pl ((nodesOf d).toNat+1) n
def selN (d:Dev) (ts:List Tile) (pl:List Int) (x:Int) (j:Nat):Int :=
 if 0<(leX ts x).sel[j]?.getD 0 then tr d ts pl (x / 2 * perT d+(leX ts x).sel[j]?.getD 0 - 1) else 0
def selTo (d:Dev) (ts:List Tile) (pl:List Int) (x:Int) (k:Nat):List Int:=(List.range k).map (selN d ts pl x)
def knownTo (d:Dev) (ts:List Tile) (pl:List Int) (x:Int) (k:Nat):Bool:=(List.range k).all fun j=>decide (0≤selN d ts pl x j)
def known (d:Dev) (ts:List Tile) (pl:List Int) (x:Int):Bool:=knownTo d ts pl x 4
theorem knownTo_succ (d:Dev) (ts:List Tile) (pl:List Int) (x:Int) (k:Nat):knownTo d ts pl x (k+1)=(knownTo d ts pl x k && decide (0≤selN d ts pl x k)):=by simp [knownTo,List.range_succ]
theorem selTo_succ (d:Dev) (ts:List Tile) (pl:List Int) (x:Int) (k:Nat):selTo d ts pl x (k+1)=selTo d ts pl x k++[selN d ts pl x k]:=by simp [selTo,List.range_succ]
theorem selTo_length (d:Dev) (ts:List Tile) (pl:List Int) (x:Int) (k:Nat):(selTo d ts pl x k).length=k:=by simp [selTo]
theorem known_false {d:Dev} {ts:List Tile} {pl:List Int} {x:Int} {k:Nat} (hk:k<4) (h:selN d ts pl x k<0):known d ts pl x=false:=by
 unfold known knownTo
 rw [List.all_eq_false]
 exact ⟨k,List.mem_range.2 hk,by simpa using h⟩

/-! ### the order of the look-up tables -/
def todoF (d:Dev) (ts:List Tile) (pl:List Int):List Int:=(lgL d ts).filter fun x=>decide (x∉pl)
def ltOf (d:Dev) (ts:List Tile) (pl:List Int) (x:Int):Lt:=⟨selTo d ts pl x 4,(leX ts x).mask⟩
def pick (d:Dev) (ts:List Tile) (pl:List Int):Option Int:=(todoF d ts pl).find? (known d ts pl)
def ordF (d:Dev) (ts:List Tile):Nat→List Int→List Lt→Option (List Int × List Lt)
 | 0,pl,lt=>some (pl,lt)
 | k+1,pl,lt=>match pick d ts pl with
  | none=>none
  | some x=>ordF d ts k (pl++[x]) (lt++[ltOf d ts pl x])
def ordA (d:Dev) (ts:List Tile):Option (List Int × List Lt):=ordF d ts (lgL d ts).length [] []
theorem find_snoc {α:Type} {p:α→Bool}:∀{l:List α} {k:Nat} {x:α},(∀j y,j<k→l[j]?=some y→p y=false)→l[k]?=some x→p x=true→l.find? p=some x
 | [],k,x,_,h,_=>by simp at h
 | y :: l,0,x,_,h,hp=>by simp at h;subst h;simp [hp]
 | y :: l,k+1,x,hn,h,hp=>by
  have h0:=hn 0 y (by omega) (by simp)
  rw [List.find?_cons,h0]
  exact find_snoc (l:=l) (k:=k) (fun j z hj hz=>hn (j+1) z (by omega) (by simpa using hz)) (by simpa using h) hp
theorem find_no {α:Type} {p:α→Bool} {l:List α} (h:∀(j:Nat) (y:α),l[j]?=some y→p y=false):l.find? p=none:=by
 rw [List.find?_eq_none]
 intro x hx
 obtain ⟨j,hj,rfl⟩:=List.getElem_of_mem hx
 have:=h j _ (List.getElem?_eq_getElem hj)
 simp [this]
theorem todo_nil (d:Dev) (ts:List Tile):todoF d ts []=lgL d ts:=by simp [todoF]
/-- Placing one takes it out of the rest. -/
theorem filter_erase {l pl : List Int} : ∀ {k : Nat} {x : Int}, l.Nodup → (l.filter fun y => decide (y ∉ pl))[k]? = some x → (l.filter fun y => decide (y ∉ pl ++ [x])) = (l.filter fun y => decide (y ∉ pl)).eraseIdx k := by
  induction l with
  | nil => intro k x _ h; simp at h
  | cons y l ih =>
    intro k x hn h
    rw [List.nodup_cons] at hn
    by_cases hy : y ∈ pl
    · have e1 : (y :: l).filter (fun y => decide (y ∉ pl)) = l.filter (fun y => decide (y ∉ pl)) := by rw [List.filter_cons, if_neg (by simpa using hy)]
      have e2 : (y :: l).filter (fun y => decide (y ∉ pl ++ [x])) = l.filter (fun y => decide (y ∉ pl ++ [x])) := by rw [List.filter_cons, if_neg (by simp [hy])]
      rw [e1] at h ⊢
      rw [e2]
      exact ih hn.2 h
    · have e1 : (y :: l).filter (fun y => decide (y ∉ pl)) = y :: l.filter (fun y => decide (y ∉ pl)) := by rw [List.filter_cons, if_pos (by simpa using hy)]
      rw [e1] at h ⊢
      cases k with
      | zero =>
        simp only [List.getElem?_cons_zero, Option.some.injEq] at h
        subst h
        rw [List.eraseIdx_cons_zero, List.filter_cons, if_neg (by simp)]
        apply List.filter_congr
        intro z hz
        have hzy : z ≠ y := fun e => hn.1 (e ▸ hz)
        simp [hzy]
      | succ k =>
        rw [List.getElem?_cons_succ] at h
        have hxl : x ∈ l := (List.mem_filter.1 (List.mem_of_getElem? h)).1
        have hyx : y ≠ x := fun e => hn.1 (e ▸ hxl)
        rw [List.eraseIdx_cons_succ, List.filter_cons, if_pos (by simp [hy, hyx]), ih hn.2 h]
theorem todo_next {d:Dev} {ts:List Tile} {pl:List Int} {k:Nat} {x:Int} (h:(todoF d ts pl)[k]?=some x):todoF d ts (pl++[x])=(todoF d ts pl).eraseIdx k:=filter_erase (asc_nodup (lgTo_asc d _)) h
theorem todo_in {d:Dev} {ts:List Tile} {pl:List Int} {x:Int} (h:x∈todoF d ts pl):x∈lgL d ts∧x∉pl:=by
 unfold todoF at h
 rw [List.mem_filter] at h
 exact ⟨h.1,by simpa using h.2⟩
theorem pick_in {d:Dev} {ts:List Tile} {pl:List Int} {x:Int} (h:pick d ts pl=some x):x∈lgL d ts∧x∉pl∧known d ts pl x=true:=by
 unfold pick at h
 have h1:=todo_in (List.mem_of_find?_eq_some h)
 exact ⟨h1.1,h1.2,List.find?_some h⟩

/-! ### the network -/
def ramIn (d:Dev) (ts:List Tile) (pl:List Int) (x:Int) (k:Nat):List Int:=(List.range k).map fun (j:Nat)=>tr d ts pl (x / 2 * perT d+(j:Int))
def ramOk (d:Dev) (ts:List Tile) (pl:List Int) (x:Int):Bool:=(List.range 4).all fun (j:Nat)=>decide (0≤tr d ts pl (x / 2 * perT d+(j:Int)))
def sqI (d:Dev) (ts:List Tile) (pl:List Int) (x:Int):List Int:=if kindOf d (x / 2)=2 then ramIn d ts pl x 4 else [numF (ltB d ts) pl x]
def sq0 (d:Dev) (ts:List Tile) (x:Int):Sq:=if kindOf d (x / 2)=2 then ⟨1,(tileAt ts (x / 2)).ram,[]⟩ else ⟨0,(leX ts x).init,[]⟩
def sqOf (d:Dev) (ts:List Tile) (pl:List Int) (x:Int):Sq:={ sq0 d ts x with ins:=sqI d ts pl x }
def sqOk (d:Dev) (ts:List Tile) (pl:List Int) (x:Int):Bool:=!decide (kindOf d (x / 2)=2) || ramOk d ts pl x
def outN (d:Dev) (ts:List Tile) (pl:List Int) (t:Int):Int:=tr d ts pl (t * perT d)
def disP (d:Dev) (ts:List Tile) (pl:List Int) (lt:List Lt):Option LNet :=
 if (owL d ts).all (sqOk d ts pl) && (outL d ts).all (fun t=>decide (0≤outN d ts pl t)) then some ⟨((insL d ts).length:Int),(owL d ts).map (sqOf d ts pl),lt,(outL d ts).map (outN d ts pl)⟩ else none
def disT (d:Dev) (ts:List Tile):Option LNet :=
 if (owL d ts).length>12∨(outL d ts).length>16 then none
 else match ordA d ts with
  | none=>none
  | some (pl,lt)=>disP d ts pl lt
def disF (d:Dev) (fs:List (List Int)):LNet × List Int × List Int × Bool :=
 if framesOk d fs=true then match disT d (tilesOf d fs) with
  | none=>(LNet.zero,[],[],false)
  | some l=>(l,insL d (tilesOf d fs),outL d (tilesOf d fs),true)
 else (LNet.zero,[],[],false)

/-! ### every source exists -/
theorem node_at {d:Dev} {t k:Int} (ht:tileIn d t=true) (h0:0≤k) (h1:k<perT d):nodeIn d (t * perT d+k)=true∧(t * perT d+k) / perT d=t∧(t * perT d+k) % perT d=k:=by
 obtain ⟨hd,t0,t1⟩:=tileIn_iff.1 ht
 have hp:=perT_bd hd
 have hm:=divmod_of (a:=t * perT d+k) (b:=perT d) rfl h0 h1
 refine ⟨nodeIn_rnP.2 ⟨hd,?_,?_⟩,hm.1,hm.2⟩
 ·have:=Int.mul_nonneg t0 (show 0≤perT d by omega);omega
 ·have h2:(t+1) * perT d≤d.W * d.H * perT d:=Int.mul_le_mul_of_nonneg_right (by omega) (by omega)
  rw [Int.add_mul,Int.one_mul] at h2
  unfold nodesOf
  omega
theorem nodeOk_at {d:Dev} {t k:Int} (ht:tileIn d t=true) (h0:0≤k) (h1:k<perT d) (h:nodeOkK d t k=true):nodeOk d (t * perT d+k)=true:=by
 obtain ⟨a,b,c⟩:=node_at ht h0 h1
 rw [nodeOk,a,b,c,h]
 rfl
theorem src_ok {d:Dev} {n y:Int} (h:y∈srcs d n):nodeOk d y=true:=by
 unfold srcs at h
 split at h
 ·rename_i hn
  have hno:=hn.1
  unfold nodeOk at hno
  rw [Bool.and_eq_true] at hno
  have ht:=node_tile hno.1
  have hd:=(tileIn_iff.1 ht).1
  have hT:=devOk_bd hd
  have hp:=perT_bd hd
  rw [mem_asc] at h
  unfold itemsOf at h
  rcases List.mem_append.1 h with h|h
  ·split at h
   ·obtain ⟨p,hp2,rfl⟩:=mem_outsOf.1 h
    have hop:=outPins_bd d (n / perT d)
    rw [outPin_eq ht hp2.1 hp2.2,Int.add_assoc]
    refine nodeOk_at ht (by omega) (by omega) ?_
    rw [nodeOkK,if_neg (by omega),if_pos (by omega)]
    exact decide_eq_true (by omega)
   ·simp at h
  ·obtain ⟨r,k,s,hr,hk,hs,hu,e,h0⟩:=(mem_candA' hd).1 h
   obtain ⟨c1,c2,c3,c4,c5⟩:=cand_ge hd (t:=n / perT d) (r:=r) (k:=k) (s:=s) (by omega)
   rw [e,c5]
   have hm:=mul_bd hr.1 hr.2 (show 0≤d.T by omega) (Int.le_refl d.T)
   refine nodeOk_at c1 (by omega) (by unfold perT;omega) ?_
   rw [nodeOkK,if_neg (by omega),if_neg (by omega)]
   have:=divmod_of (a:=7+r * d.T+k - 7) (b:=d.T) (q:=r) (r:=k) (by omega) hk.1 hk.2
   rw [this.1,this.2]
   exact decide_eq_true c4
 ·simp at h
theorem drv_ok {d:Dev} {ts:List Tile} {n:Int} (hc:CfgOk d ts) (h:0≤drvOf d ts n):nodeOk d (drvOf d ts n)=true:=by
 unfold drvOf at h ⊢
 split at h
 ·rename_i hl
  rw [if_pos hl]
  unfold drvSel at h ⊢
  split at h
  ·omega
  ·rename_i hs
   rw [if_neg hs]
   refine src_ok (n:=n) ?_
   rcases Nat.lt_or_ge (selOf d ts n - 1).toNat (srcs d n).length with hlt|hge
   ·rw [List.getElem?_eq_getElem hlt]
    exact List.getElem_mem hlt
   ·exfalso
    have hni:nodeIn d n=true:=by have:=hl.1;unfold nodeOk at this;rw [Bool.and_eq_true] at this;exact this.1
    have:=sel_bd hc hni hl.2
    omega
 ·omega
/-- An input pin or an output of a tile that exists. -/
theorem pin_ok {d:Dev} {t k:Int} (ht:tileIn d t=true) (h0:0≤k) (h:k<5∧k<inPins (kindOf d t)∨5≤k∧k<7∧k - 5<outPins (kindOf d t)):nodeOk d (t * perT d+k)=true:=by
 have hp:=perT_bd (tileIn_iff.1 ht).1
 refine nodeOk_at ht h0 (by omega) ?_
 unfold nodeOkK
 rcases h with ⟨h1,h2⟩|⟨h1,h2,h3⟩
 ·rw [if_pos h1];exact decide_eq_true h2
 ·rw [if_neg (by omega),if_pos h2];exact decide_eq_true h3
/-- At an output pin that exists. -/
theorem out_ok {d:Dev} {n:Int} (h:nodeOk d n=true) (h5:n % perT d=5∨n % perT d=6):tileIn d (n / perT d)=true∧n % perT d - 5<outPins (kindOf d (n / perT d)):=by
 unfold nodeOk at h
 rw [Bool.and_eq_true] at h
 refine ⟨node_tile h.1,?_⟩
 have h2:=h.2
 unfold nodeOkK at h2
 rw [if_neg (by omega),if_pos (by omega)] at h2
 simpa using h2
end Go.Proofs.YtignkfhdkcgkgaaGreat

namespace Go.Proofs.YtignkfhdkcgkgaaGreat
set_option maxRecDepth 100000
open Go.RowKit

/-- Block b is a map from the elements of l to their numbers, counted from base on. -/
def NumAt (w:World) (b:Nat) (base:Int) (l:List Int):Prop :=
 ∃D:DataW Unit,w.ownsMap Tryz.prog 3 (plainElem Tryz.prog 3) b l.length D∧∀x:Int,D.atKey (.int .i64 x) (.lit (.int .i64 0)) = .lit (.int .i64 (numF base l x))∧Maps.has D (.int .i64 x)=decide (x∈l)
theorem NumAt.made (w:World) (base:Int):NumAt (w.alloc (.map #[] 0)) w.heap.size base [] :=
 ⟨.map [],World.ownsMap_made w _ _ _,fun x=>⟨by rw [numF_nil];rfl,by simp [Maps.has]⟩⟩
theorem NumAt.lt {w:World} {b:Nat} {base:Int} {l:List Int} (h:NumAt w b base l):b<w.heap.size:=by
 obtain ⟨D,h1,_⟩:=h
 exact h1.lt
theorem NumAt.keep {w w':World} {b:Nat} {base:Int} {l:List Int} (h:NumAt w b base l) (hk:w'.heap[b]?=w.heap[b]?):NumAt w' b base l:=by
 obtain ⟨D,⟨es,ck,hb,hr⟩,h2⟩:=h
 exact ⟨D,⟨es,ck,hk.trans hb,hr⟩,h2⟩
theorem NumAt.below {w w':World} {b:Nat} {base:Int} {l:List Int} (h:NumAt w b base l) (hb:Below w.heap.size w w'):NumAt w' b base l:=h.keep (hb.block b h.lt)
theorem NumAt.base {w:World} {b:Nat} {base base':Int} (h:NumAt w b base []):NumAt w b base' []:=by
 obtain ⟨D,h1,h2⟩:=h
 exact ⟨D,h1,fun x=>⟨by rw [(h2 x).1,numF_nil,numF_nil],(h2 x).2⟩⟩
def InI64 (x:Int):Prop:=-9223372036854775808≤x∧x≤9223372036854775807
theorem wf64 {x:Int} (h:InI64 x):(Lit.int .i64 x).wf=true:=by
 unfold InI64 at h
 unfold Lit.wf
 rw [Bool.and_eq_true]
 exact ⟨decide_eq_true h.1,decide_eq_true h.2⟩
theorem keyedI:Maps.Keyed Tryz.prog 3:=Maps.int_keyed Tryz.underlying3
theorem zeroI (w:World):(zeroValue 3).run Tryz.prog w = .ok (.int .i64 0) w:=by kernel_rfl
theorem key64 {x:Int} (h:InI64 x):keyOf Tryz.prog 3 (.int .i64 x)=some (.int .i64 x):=Maps.keyOf_int_mk Tryz.underlying3 (wf64 h)
theorem NumAt.put {D:DataW Unit} {base:Int} {l:List Int} {key:Int} (hm:Maps.IsMap D) (h:∀x:Int,D.atKey (.int .i64 x) (.lit (.int .i64 0)) = .lit (.int .i64 (numF base l x))∧Maps.has D (.int .i64 x)=decide (x∈l)) (hk:key∉l) (x:Int) :
  (D.put (.int .i64 key) (.lit (.int .i64 (base+(l.length:Int))))).atKey (.int .i64 x) (.lit (.int .i64 0)) = .lit (.int .i64 (numF base (l++[key]) x))∧Maps.has (D.put (.int .i64 key) (.lit (.int .i64 (base+(l.length:Int))))) (.int .i64 x)=decide (x∈l++[key]):=by
 rw [numF_snoc hk]
 by_cases e:x=key
 ·subst e
  rw [if_pos rfl,Maps.atKey_put_same hm (by trivial),Maps.has_put_same hm (by trivial)]
  simp
 ·have hne:(Lit.int .i64 x) ≠ .int .i64 key:=fun h=>e (by injection h)
  rw [if_neg e,Maps.atKey_put_other hne,Maps.has_put_other hne,(h x).1,(h x).2]
  simp [e]
section
variable (w:World) {ops:Array Oper} {rest:List Oper} {o:Oper} {a:Act} {Q:Exit→Act→World→Prop}
theorem wpList_numGet (hg:o.guard=none) (m x:Operand) (hop:o.op=Op.lookup 116 m x false) (b:Nat) (base:Int) (l:List Int) (hm:a.eval m = .map (some b)) (hown:NumAt w b base l) (key:Int) (hx:a.eval x = .int .i64 key) (hk:InI64 key)
  (hK:wpList Tryz.prog ops Q rest (a.put o.dst (.int .i64 (numF base l key))) w):wpList Tryz.prog ops Q (o :: rest) a w:=by
 obtain ⟨D,h1,h2⟩:=hown
 refine wpList_lookup_own_int w hg m x _ hop 3 3 .i64 keyedI Tryz.underlying116 Tryz.underlying3 (zeroI w) b _ D hm h1 _ _ hx (key64 hk) fun c hat _=>?_
 rw [(h2 key).1] at hat
 injection hat with hat
 injection hat with _ hat
 subst hat
 exact hK
theorem wpList_numOk (hg:o.guard=none) (m x:Operand) (hop:o.op=Op.lookup 116 m x true) (b:Nat) (base:Int) (l:List Int) (hm:a.eval m = .map (some b)) (hown:NumAt w b base l) (key:Int) (hx:a.eval x = .int .i64 key) (hk:InI64 key)
  (hK:wpList Tryz.prog ops Q rest (a.put o.dst (.tuple #[.int .i64 (numF base l key),.bool (decide (key∈l))])) w):wpList Tryz.prog ops Q (o :: rest) a w:=by
 obtain ⟨D,h1,h2⟩:=hown
 refine wpList_lookup_own_ok_int w hg m x _ hop 3 3 .i64 keyedI Tryz.underlying116 Tryz.underlying3 (zeroI w) b _ D hm h1 _ _ hx (key64 hk) fun c hat _=>?_
 rw [(h2 key).1] at hat
 injection hat with hat
 injection hat with _ hat
 subst hat
 rw [(h2 key).2]
 exact hK
end
end Go.Proofs.YtignkfhdkcgkgaaGreat

namespace Go.Proofs.YtignkfhdkcgkgaaGreat
set_option maxRecDepth 100000
open Go.RowKit

/-- A list of numbers that says what is behind each output pin. -/
def NodesOf (d:Dev) (ts:List Tile) (pl:List Int) (xs:List Int):Prop:=∀n:Nat,nodeIn d (n:Int)=true→((n:Int) % perT d=5∨(n:Int) % perT d=6)→(n:Int) % perT d - 5<outPins (kindOf d ((n:Int) / perT d))→xs[n]?.getD 0=ndP d ts pl ((n:Int) / perT d) ((n:Int) % perT d - 5)
def PinOk (d:Dev) (n:Int):Prop:=(n % perT d=5∨n % perT d=6)→n % perT d - 5<outPins (kindOf d (n / perT d))
theorem trS_pin {d:Dev} {ts:List Tile} {pl:List Int} {n:Int} (f:Nat) (h:n % perT d=5∨n % perT d=6):trF d ts pl (f+1) n=ndP d ts pl (n / perT d) (n % perT d - 5):=by rw [trF,if_pos h]
theorem trS_none {d:Dev} {ts:List Tile} {pl:List Int} {n:Int} (f:Nat) (h:¬(n % perT d=5∨n % perT d=6)) (h0:drvOf d ts n<0):trF d ts pl (f+1) n=0:=by rw [trF,if_neg h,if_pos h0]
theorem trS_step {d:Dev} {ts:List Tile} {pl:List Int} {n:Int} (f:Nat) (h:¬(n % perT d=5∨n % perT d=6)) (h0:¬drvOf d ts n<0):trF d ts pl (f+1) n=trF d ts pl f (drvOf d ts n):=by rw [trF,if_neg h,if_neg h0]
set_option maxHeartbeats 2000000 in
theorem l42Trace_any (d:Dev) (ts:List Tile) (pl:List Int) (N:Nat) (DA:Option Addr) (dc:Nat) (NA:Option Addr) (nc:Nat) (xs:List Int) (n0:Int) (w:World)
  (hD:Ints w DA N (drvTo d ts N)) (hX:Ints w NA N xs) (hN:(N:Int)=nodesOf d) (hc:CfgOk d ts) (hx:NodesOf d ts pl xs) (hn:nodeIn d n0=true) (hp:PinOk d n0) :
  Calls Tryz.prog 70 #[.slice DA N dc,.int .i64 (perT d),.slice NA N nc,.int .i64 n0] w fun e w'=>e = .returned (.int .i64 (tr d ts pl n0))∧w=w':=by
 have hnb:=nodesOf_bd hc.dev
 have hpb:=perT_bd hc.dev
 obtain ⟨bd,od,rfl,hbd,hcd⟩:=hD.2 (by omega)
 obtain ⟨bx,ox,rfl,hbx,hcx⟩:=hX.2 (by omega)
 have HCD:=Lib.hid hcd
 have HCX:=Lib.hid hcx
 have HNE:=Lib.hid hN
 have HC:=Lib.hid hc
 have HXS:=Lib.hid hx
 have HTR:Hid (tr d ts pl n0=trF d ts pl (N+1) n0):=by show _=_;unfold tr;rw [show (nodesOf d).toNat=N by omega]
 have HNI:=Lib.hid hn
 have HPI:=Lib.hid hp
 rw [←hN] at hnb
 clear hD hX hc hx hn hp hcd hcx hN
 generalize hX:tr d ts pl n0=X at *
 clear hX
 go_enter Tryz.func70,Tryz.ntmps70
 go_wp2_with fail
 go_loop [3,9] (fun nd s=>∃(k:Nat) (n:Int),k≤N+1∧s = .int .i64 k∧nd = .int .i64 n∧nodeIn d n=true∧PinOk d n∧X=trF d ts pl (N+1 - k) n) (fun _ s=>N+1 - (intOf s).toNat)
 case atStart=>exact ⟨0,n0,by omega,rfl,rfl,HNI.out,HPI.out,HTR.out⟩
 case round =>
  obtain ⟨k,n,hk,rfl,rfl,hn,hp,hX⟩:=hrel
  have HNN:=Lib.hid hn
  have HPP:=Lib.hid hp
  have HXX:=Lib.hid hX
  clear hn hp hX
  by_cases hlt:k≤N
  ·have hdk:decide ((k:Int)≤(N:Int))=true:=by simp;omega
   obtain ⟨_,n0',n1,hq0,hq1,hr0,hr1⟩:=node_tk HNN.out
   have hnn:=(nodeIn_rnP.1 HNN.out).2.2
   rw [←HNE.out] at hnn
   have HF:Hid (N+1 - k=N - k+1):=by show _=_;omega
   obtain ⟨nn,rfl⟩:=Int.eq_ofNat_of_zero_le n0'
   have hck:=HCD.out nn (by omega)
   rw [drvTo_get (by omega)] at hck
   have hcn:=HCX.out nn (by omega)
   have i0:(0:Int)≤(nn:Int):=by omega
   have i1:(nn:Int)<(N:Int):=by omega
   have hmod:(nn:Int).tmod (perT d)=(nn:Int) % perT d:=Int.tmod_eq_emod_of_nonneg (by omega)
   have hnz:¬perT d=0:=by omega
   by_cases h5:(nn:Int) % perT d=5∨(nn:Int) % perT d=6
   ·have HX2:Hid (xs[nn]?.getD 0=X):=by show _=_;rw [HXX.out,HF.out,trS_pin _ h5,HXS.out nn HNN.out h5 (HPP.out h5)]
    rw [HX2.out] at hcn
    have hp5:((nn:Int) % perT d==5)=true∨((nn:Int) % perT d==5)=false∧((nn:Int) % perT d==6)=true:=by
     rcases h5 with h|h
     ·exact .inl (by simpa using h)
     ·exact .inr ⟨by simp;omega,by simpa using h⟩
    clear h5
    generalize (nn:Int) % perT d=q at *
    rcases hp5 with hp5|⟨hp5,hp6⟩
    all_goals
     go_wp2_with fail
     go_ret
     exact ⟨rfl,rfl⟩
   ·have hp5:((nn:Int) % perT d==5)=false:=by simp;omega
    have hp6:((nn:Int) % perT d==6)=false:=by simp;omega
    have HDN:=Lib.hid (fun h=>(drv_node (n:=(nn:Int)) HC.out h).1)
    have HDO:=Lib.hid (fun h=>(fun h5=>(out_ok (drv_ok (n:=(nn:Int)) HC.out h) h5).2:PinOk d (drvOf d ts (nn:Int))))
    have HX0:=Lib.hid (fun h0=>(HXX.out.trans (by rw [HF.out])).trans (trS_none (d:=d) (ts:=ts) (pl:=pl) (n:=(nn:Int)) (N - k) h5 h0))
    have HX1:=Lib.hid (fun h0=>(HXX.out.trans (by rw [HF.out])).trans (trS_step (d:=d) (ts:=ts) (pl:=pl) (n:=(nn:Int)) (N - k) h5 h0))
    generalize drvOf d ts (nn:Int)=s at *
    generalize (nn:Int) % perT d=q at *
    clear h5
    by_cases hs0:s<0
    ·have hds:decide (s<0)=true:=by simpa using hs0
     have HX2:=Lib.hid (HX0.out hs0)
     go_wp2_with fail
     go_ret
     exact ⟨ret_int HX2.out.symm,rfl⟩
    ·have hds:decide (s<0)=false:=by simpa using hs0
     have HX2:=Lib.hid (HX1.out hs0)
     have HN2:=Lib.hid (HDN.out (by omega))
     have HP2:=Lib.hid (HDO.out (by omega))
     clear hs0
     go_wp2_with fail
     go_round
     case rel=>exact ⟨k+1,s,by omega,by go_num,rfl,HN2.out,HP2.out,by rw [HX2.out];congr 1;omega⟩
     case measure=>simp [intOf];omega
  ·have hdk:decide ((k:Int)≤(N:Int))=false:=by simp;omega
   have HX2:Hid (X=-2):=by show _=_;rw [HXX.out,show N+1 - k=0 by omega];rfl
   go_wp2_with fail
   go_ret
   exact ⟨ret_int HX2.out.symm,rfl⟩
end Go.Proofs.YtignkfhdkcgkgaaGreat
