/- The sequential elements of a network that is read back, when what goes into the first of them is known. Plain lemmas. -/
import Derived.Test.YtignkfhdkcgkgaaSepN
namespace Go.Proofs.Ytignkfhdkcgkgaa
set_option maxRecDepth 100000
open Go.RowKit

/-- The sequential elements when what goes into the first k is known. -/
def sqMid (d:Dev) (ts:List Tile) (pl:List Int) (k:Nat):List Sq:=(List.range (owL d ts).length).map fun i=>if i<k then sqOf d ts pl ((owL d ts)[i]?.getD 0) else sq0 d ts ((owL d ts)[i]?.getD 0)
theorem sqMid_length (d:Dev) (ts:List Tile) (pl:List Int) (k:Nat):(sqMid d ts pl k).length=(owL d ts).length:=by simp [sqMid]
theorem sqMid_zero (d:Dev) (ts:List Tile) (pl:List Int):sqMid d ts pl 0=(owL d ts).map (sq0 d ts):=by
 apply List.ext_getElem?
 intro i
 simp only [sqMid,Nat.not_lt_zero,if_false,List.getElem?_map]
 rcases Nat.lt_or_ge i (owL d ts).length with h|h
 ·simp [h]
 ·simp [h]
theorem sqMid_full (d:Dev) (ts:List Tile) (pl:List Int):sqMid d ts pl (owL d ts).length=(owL d ts).map (sqOf d ts pl):=by
 apply List.ext_getElem?
 intro i
 simp only [sqMid,List.getElem?_map]
 rcases Nat.lt_or_ge i (owL d ts).length with h|h
 ·simp [h]
 ·simp [h]
theorem sqMid_get {d:Dev} {ts:List Tile} {pl:List Int} {k:Nat} {x:Int} (h:(owL d ts)[k]?=some x):(sqMid d ts pl k)[k]?=some (sq0 d ts x):=by
 have hk:=(List.getElem?_eq_some_iff.1 h).1
 unfold sqMid
 rw [List.getElem?_map,List.getElem?_range hk]
 simp [h]
theorem sqMid_set {d:Dev} {ts:List Tile} {pl:List Int} {k:Nat} {x:Int} (h:(owL d ts)[k]?=some x):(sqMid d ts pl k).set k (sqOf d ts pl x)=sqMid d ts pl (k+1):=by
 have hk:=(List.getElem?_eq_some_iff.1 h).1
 apply List.ext_getElem?
 intro i
 by_cases hi:i=k
 ·subst hi
  rw [List.getElem?_set_self (by rw [sqMid_length];exact hk)]
  unfold sqMid
  rw [List.getElem?_map,List.getElem?_range hk,Option.map_some,if_pos (by omega),h]
  rfl
 ·rw [List.getElem?_set_ne (by omega)]
  unfold sqMid
  rw [List.getElem?_map,List.getElem?_map]
  rcases Nat.lt_or_ge i (owL d ts).length with h1|h1
  ·rw [List.getElem?_range h1,Option.map_some,Option.map_some]
   by_cases h2:i<k
   ·rw [if_pos h2,if_pos (by omega)]
   ·rw [if_neg h2,if_neg (by omega)]
  ·rw [List.getElem?_eq_none (by simpa using h1)]
   rfl
theorem OwnC.sqLen {w:World} {B n c:Nat} {A:Option Addr} {xs:List Sq} (h:RdC w B (celSq xs) (.slice A n c)):xs.length=n:=by
 have:=RdC.len h
 rw [flatS_length Sq.cells_length] at this
 omega
theorem all_nth {l:List Int} {p:Int→Bool} {k:Nat} {x:Int} (h:∀(j:Nat) (y:Int),j<k→l[j]?=some y→p y=true) (hx:l[k]?=some x) (hp:p x=true):∀(j:Nat) (y:Int),j<k+1→l[j]?=some y→p y=true:=fun j y hj he=>by
 rcases Nat.lt_or_ge j k with h1|h1
 ·exact h j y h1 he
 ·obtain rfl:j=k:=by omega
  rw [hx] at he
  injection he with he
  exact he ▸ hp
/-- What the tiles so far bring is the beginning of the whole. -/
theorem owTo_pre (d:Dev) (ts:List Tile) (k j:Nat):∃r,owTo d ts (k+j)=owTo d ts k++r:=by
 induction j with
 | zero=>exact ⟨[],by simp⟩
 | succ j ih =>
  obtain ⟨r,h⟩:=ih
  exact ⟨r++owAt d ts (k+j),by rw [←Nat.add_assoc,owTo,h,List.append_assoc]⟩
theorem owL_at {d:Dev} {ts:List Tile} {k:Nat} (hk:k<ts.length) (a b:List Int) (x:Int) (h:owAt d ts k=a++x :: b):(owL d ts)[(owTo d ts k++a).length]?=some x:=by
 obtain ⟨r,hr⟩:=owTo_pre d ts (k+1) (ts.length - (k+1))
 rw [show k+1+(ts.length - (k+1))=ts.length by omega,owTo,h] at hr
 rw [owL,hr,show owTo d ts k++(a++x :: b)++r=(owTo d ts k++a)++(x :: (b++r)) by simp,List.getElem?_append_right (Nat.le_refl _)]
 simp
theorem owP_pre (ts:List Tile) (k:Nat) {e:Nat} (he:e<2) (hf:(leX ts (2 * (k:Int)+(e:Int))).flop=1):∃b,owP ts k 2=owP ts k e++(2 * (k:Int)+(e:Int)) :: b:=by
 have:e=0∨e=1:=by omega
 rcases this with rfl|rfl
 ·refine ⟨if (leX ts (2 * (k:Int)+((1:Nat):Int))).flop=1 then [2 * (k:Int)+((1:Nat):Int)] else [],?_⟩
  rw [show owP ts k 2=owP ts k 1++(if (leX ts (2 * (k:Int)+((1:Nat):Int))).flop=1 then [2 * (k:Int)+((1:Nat):Int)] else []) from rfl,show owP ts k 1=owP ts k 0++(if (leX ts (2 * (k:Int)+((0:Nat):Int))).flop=1 then [2 * (k:Int)+((0:Nat):Int)] else []) from rfl,if_pos hf]
  simp
 ·exact ⟨[],by rw [show owP ts k 2=owP ts k 1++(if (leX ts (2 * (k:Int)+((1:Nat):Int))).flop=1 then [2 * (k:Int)+((1:Nat):Int)] else []) from rfl,if_pos hf]⟩
end Go.Proofs.Ytignkfhdkcgkgaa
