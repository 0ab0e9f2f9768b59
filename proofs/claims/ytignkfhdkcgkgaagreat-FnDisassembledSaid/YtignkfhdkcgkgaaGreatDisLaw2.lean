/- Every node that is driven has its driver's value; nodes that do not exist stay undetermined: plain lemmas. A network that is read back from a device behaves like the device: one cycle. Plain lemmas; no function is walked here. A network that is read back from a device behaves like the device: the values of a cycle. Plain lemmas; no function is walked here. -/
import Derived.Test.YtignkfhdkcgkgaaGreatDisR9
import Derived.Test.YtignkfhdkcgkgaaGreatRunPure
import Derived.Test.YtignkfhdkcgkgaaGreatTrcS
import Derived.Test.YtignkfhdkcgkgaaGreatVal
namespace Go.Proofs.YtignkfhdkcgkgaaGreat
set_option maxRecDepth 100000
open Go.RowKit Cw

/-- The value that a node's driver has. -/
def drvV (d:Dev) (ts:List Tile) (vs:List Int) (n:Int):Int:=if 0≤drvOf d ts n then nv vs (drvOf d ts n) else 0
def ConsV (d:Dev) (ts:List Tile) (vs:List Int):Prop :=
 (∀n,n.toNat<vs.length→nodeOk d n=true→¬(n % perT d=5∨n % perT d=6)→0≤nv vs n→drvV d ts vs n=nv vs n)∧(∀k:Nat,k<vs.length→nodeOk d (k:Int)=false→nv vs (k:Int)=-1)
theorem nv_lt {vs:List Int} {n:Int} (h:nv vs n<0):n.toNat<vs.length:=by
 rcases Nat.lt_or_ge n.toNat vs.length with hl|hl
 ·exact hl
 ·unfold nv at h
  rw [List.getElem?_eq_none hl] at h
  simp at h
theorem nv_same {vs:List Int} {a b:Int} (h:a.toNat=b.toNat):nv vs a=nv vs b:=by unfold nv;rw [h]
theorem node_range {d:Dev} {n:Int} (h:nodeOk d n=true):0≤n∧n<nodesOf d:=by
 unfold nodeOk nodeIn at h
 simp only [Bool.and_eq_true,decide_eq_true_eq] at h
 exact h.1.2
theorem consV_step {d:Dev} {ts:List Tile} {st pads vs:List Int} (h:ConsV d ts vs) (m:Int):ConsV d ts (stepV d ts st pads vs m):=by
 unfold stepV
 split
 ·rename_i hc
  obtain ⟨hm,hn,hx⟩:=hc
  have hl:=nv_lt hn
  have rm:=node_range hm
  refine ⟨fun n hnl hno h5 h0=>?_,fun k hk hno=>?_⟩
  ·have rn:=node_range hno
   rw [List.length_set] at hnl
   rw [nv_set hl] at h0 ⊢
   unfold drvV
   by_cases he:n.toNat=m.toNat
   ·have hmn:n=m:=by omega
    subst hmn
    rw [if_pos rfl] at h0 ⊢
    have hv:nodeV d ts st pads vs n=if 0≤drvOf d ts n then nv vs (drvOf d ts n) else 0:=by unfold nodeV;rw [if_neg h5]
    rw [hv] at h0 ⊢
    split
    ·rename_i hd
     rw [if_pos hd] at h0
     rw [nv_set hl,if_neg]
     intro h2
     rw [nv_same h2] at h0
     omega
    ·rfl
   ·rw [if_neg he] at h0 ⊢
    have h1:=h.1 n hnl hno h5 h0
    unfold drvV at h1
    split
    ·rename_i hd
     rw [if_pos hd] at h1
     rw [nv_set hl,if_neg]
     ·exact h1
     ·intro h2
      rw [nv_same h2] at h1
      omega
    ·rename_i hd
     rwa [if_neg hd] at h1
  ·rw [List.length_set] at hk
   rw [nv_set hl]
   split
   ·rename_i he
    have:(k:Int)=m:=by omega
    rw [this,hm] at hno
    cases hno
   ·exact h.2 k hk hno
 ·exact h
theorem consV_sweep {d:Dev} {ts:List Tile} {st pads vs:List Int} (h:ConsV d ts vs) (k:Nat):ConsV d ts (sweepTo d ts st pads vs k):=by
 induction k with
 | zero=>exact h
 | succ k ih=>exact consV_step ih _
theorem consV_it (d:Dev) (ts:List Tile) (st pads:List Int) (N j:Nat):ConsV d ts (itV d ts st pads N j):=by
 induction j with
 | zero =>
  have e:∀n:Int,n.toNat<N→nv (itV d ts st pads N 0) n=-1:=fun n hn=>by
   unfold itV nv
   rw [List.getElem?_replicate,if_pos hn]
   rfl
  refine ⟨fun n hn _ _ h0=>?_,fun k hk _=>?_⟩
  ·rw [itV_length] at hn
   rw [e n hn] at h0
   omega
  ·rw [itV_length] at hk
   exact e k (by omega)
 | succ j ih=>exact consV_sweep ih _
theorem sweepTo_mono (d:Dev) (ts:List Tile) (st pads vs:List Int) {a b:Nat} (h:a≤b):cntV (sweepTo d ts st pads vs a)≤cntV (sweepTo d ts st pads vs b):=by
 induction b with
 | zero=>rw [show a=0 by omega];exact Nat.le_refl _
 | succ b ih =>
  rcases Nat.lt_or_ge a (b+1) with h1|h1
  ·refine Nat.le_trans (ih (by omega)) ?_
   rw [sweepTo]
   rcases stepV_cnt d ts st pads (sweepTo d ts st pads vs b) (b:Int) with h2|h2
   ·rw [h2];exact Nat.le_refl _
   ·omega
  ·rw [show a=b+1 by omega];exact Nat.le_refl _
/-- In the end no node can be determined any more. -/
theorem valsF_step (d:Dev) (ts:List Tile) (st pads:List Int) {k:Nat} (hk:k<(nodesOf d).toNat):stepV d ts st pads (valsF d ts st pads) (k:Int)=valsF d ts st pads:=by
 have hf:=valsF_fix d ts st pads
 generalize valsF d ts st pads=vs at *
 have h1:∀j,j≤(nodesOf d).toNat→sweepTo d ts st pads vs j=vs:=by
  intro j hj
  have h2:=sweepTo_mono d ts st pads vs hj
  rw [hf] at h2
  have h3:=sweepTo_cnt d ts st pads vs j
  exact h3.2 (by omega)
 have h4:=h1 (k+1) (by omega)
 rw [sweepTo,h1 k (by omega)] at h4
 exact h4
/-- A node that is not an output pin has its driver's value. -/
theorem vals_follow {d:Dev} {ts:List Tile} {st pads:List Int} (hp:StPads d ts st pads) {k:Nat} (hk:k<(nodesOf d).toNat) (hno:nodeOk d (k:Int)=true) (h5:¬((k:Int) % perT d=5∨(k:Int) % perT d=6)) :
  nv (valsF d ts st pads) (k:Int)=drvV d ts (valsF d ts st pads) (k:Int):=by
 have hc:ConsV d ts (valsF d ts st pads):=consV_it _ _ _ _ _ _
 have hs:=valsF_step d ts st pads hk
 have h3:In3 (valsF d ts st pads):=itV_in hp _ _
 have hl:=valsF_length d ts st pads
 generalize valsF d ts st pads=vs at *
 rcases Int.lt_or_le (nv vs (k:Int)) 0 with h0|h0
 ·have hv:nodeV d ts st pads vs (k:Int)=drvV d ts vs (k:Int):=by unfold nodeV drvV;rw [if_neg h5]
  have hneg:drvV d ts vs (k:Int)<0:=by
   rcases Int.lt_or_le (drvV d ts vs (k:Int)) 0 with h|h
   ·exact h
   ·exfalso
    unfold stepV at hs
    rw [if_pos ⟨hno,h0,by rw [hv];exact h⟩] at hs
    have h9:=congrArg (fun l=>nv l (k:Int)) hs
    rw [nv_set (nv_lt h0),if_pos rfl,hv] at h9
    omega
  have b1:=in3_nv h3 (k:Int)
  unfold drvV at hneg ⊢
  split
  ·rename_i hd
   rw [if_pos hd] at hneg
   have b2:=in3_nv h3 (drvOf d ts (k:Int))
   omega
  ·rename_i hd
   rw [if_neg hd] at hneg
   omega
 ·exact (hc.1 _ (by rw [hl];omega) hno h5 h0).symm
end Go.Proofs.YtignkfhdkcgkgaaGreat

namespace Go.Proofs.YtignkfhdkcgkgaaGreat
set_option maxRecDepth 100000
open Go.RowKit Cw

/-! ### output pins -/
theorem selV_set {d:Dev} {vs:List Int} {k:Nat} (hk:k<vs.length) (hn:nv vs (k:Int)<0) (x t s:Int) (h:0≤selV d vs t s):selV d (vs.set k x) t s=selV d vs t s:=by
 unfold selV at h ⊢
 split
 ·rename_i hs
  rw [if_pos hs] at h
  rw [nv_set hk,if_neg]
  intro e
  rw [nv_same (a:=t * perT d+s - 1) (b:=(k:Int)) (by omega)] at h
  omega
 ·rfl
theorem negTo_sel {d:Dev} {vs:List Int} {t:Int} {sel:List Int} {m:Nat} (h:negTo d vs t sel m=false) {j:Nat} (hj:j<m):0≤selV d vs t (sel[j]?.getD 0):=by
 have h1:negTo d vs t sel (j+1)=false:=by
  cases h2:negTo d vs t sel (j+1) with
  | false=>rfl
  | true=>rw [negTo_mono (show j+1≤m by omega) h2] at h;cases h
 rw [negTo,Bool.or_eq_false_iff,decide_eq_false_iff_not] at h1
 omega
theorem negTo_same {d:Dev} {vs us:List Int} {t:Int} {sel:List Int} {m:Nat} (h:∀j,j<m→selV d us t (sel[j]?.getD 0)=selV d vs t (sel[j]?.getD 0)):negTo d us t sel m=negTo d vs t sel m:=by
 induction m with
 | zero=>rfl
 | succ m ih=>rw [negTo,negTo,ih fun j hj=>h j (by omega),h m (by omega)]
theorem idxTo_same {d:Dev} {vs us:List Int} {t:Int} {sel:List Int} {m:Nat} (h:∀j,j<m→selV d us t (sel[j]?.getD 0)=selV d vs t (sel[j]?.getD 0)):idxTo d us t sel m=idxTo d vs t sel m:=by
 induction m with
 | zero=>rfl
 | succ m ih=>rw [idxTo,idxTo,ih fun j hj=>h j (by omega),h m (by omega)]
theorem lutF_set {d:Dev} {vs:List Int} {k:Nat} (hk:k<vs.length) (hn:nv vs (k:Int)<0) (x t:Int) (e:Le) (h:0≤lutF d vs t e):lutF d (vs.set k x) t e=lutF d vs t e:=by
 have h0:negTo d vs t e.sel 4=false:=by
  cases h1:negTo d vs t e.sel 4 with
  | false=>rfl
  | true=>unfold lutF at h;rw [if_pos h1] at h;omega
 have hs:∀j,j<4→selV d (vs.set k x) t (e.sel[j]?.getD 0)=selV d vs t (e.sel[j]?.getD 0):=fun j hj=>selV_set hk hn x t _ (negTo_sel h0 hj)
 unfold lutF
 rw [negTo_same hs,idxTo_same hs]
theorem pinF_set {d:Dev} {ts:List Tile} {st pads vs:List Int} {k:Nat} (hk:k<vs.length) (hn:nv vs (k:Int)<0) (x t p:Int) (h:0≤pinF d ts st pads vs t p):pinF d ts st pads (vs.set k x) t p=pinF d ts st pads vs t p:=by
 unfold pinF at h ⊢
 by_cases h0:kindOf d t=0
 ·rw [if_pos h0,if_pos h0]
 ·by_cases h2:kindOf d t=2
  ·rw [if_neg h0,if_neg h0,if_pos h2,if_pos h2]
  ·by_cases h1:(leAt ts t p).flop=1
   ·rw [if_neg h0,if_neg h0,if_neg h2,if_neg h2,if_pos h1,if_pos h1]
   ·rw [if_neg h0,if_neg h2,if_neg h1] at h
    rw [if_neg h0,if_neg h0,if_neg h2,if_neg h2,if_neg h1,if_neg h1]
    exact lutF_set hk hn x t _ h
/-- Output pins that are determined show what they shall. -/
def ConsP (d:Dev) (ts:List Tile) (st pads vs:List Int):Prop:=∀n:Nat,nodeOk d (n:Int)=true→((n:Int) % perT d=5∨(n:Int) % perT d=6)→n<vs.length→0≤nv vs (n:Int)→pinF d ts st pads vs ((n:Int) / perT d) ((n:Int) % perT d - 5)=nv vs (n:Int)
theorem consP_step {d:Dev} {ts:List Tile} {st pads vs:List Int} (h:ConsP d ts st pads vs) (m:Nat):ConsP d ts st pads (stepV d ts st pads vs (m:Int)):=by
 unfold stepV
 split
 ·rename_i hc
  obtain ⟨hm,hn,hx⟩:=hc
  have hl:=nv_lt hn
  rw [Int.toNat_natCast] at hl ⊢
  intro n hno h5 hnl h0
  rw [List.length_set] at hnl
  rw [nv_set hl,Int.toNat_natCast] at h0 ⊢
  by_cases e:n=m
  ·subst e
   rw [if_pos rfl] at h0 ⊢
   have hv:nodeV d ts st pads vs (n:Int)=pinF d ts st pads vs ((n:Int) / perT d) ((n:Int) % perT d - 5):=by unfold nodeV;rw [if_pos h5]
   rw [hv] at h0 ⊢
   exact pinF_set hl hn _ _ _ h0
  ·rw [if_neg e] at h0 ⊢
   have h1:=h n hno h5 hnl h0
   rw [←h1] at h0
   rw [pinF_set hl hn _ _ _ h0,h1]
 ·exact h
theorem consP_sweep {d:Dev} {ts:List Tile} {st pads vs:List Int} (h:ConsP d ts st pads vs) (k:Nat):ConsP d ts st pads (sweepTo d ts st pads vs k):=by
 induction k with
 | zero=>exact h
 | succ k ih=>exact consP_step ih _
theorem consP_it (d:Dev) (ts:List Tile) (st pads:List Int) (N j:Nat):ConsP d ts st pads (itV d ts st pads N j):=by
 induction j with
 | zero =>
  intro n _ _ hn h0
  rw [itV_length] at hn
  unfold itV nv at h0
  rw [List.getElem?_replicate,if_pos (by omega)] at h0
  simp at h0
 | succ j ih=>exact consP_sweep ih _
/-- An output pin that can be determined is determined. -/
theorem vals_pin {d:Dev} {ts:List Tile} {st pads:List Int} {k:Nat} (hk:k<(nodesOf d).toNat) (hno:nodeOk d (k:Int)=true) (h5:(k:Int) % perT d=5∨(k:Int) % perT d=6)
  (h:0≤pinF d ts st pads (valsF d ts st pads) ((k:Int) / perT d) ((k:Int) % perT d - 5)):nv (valsF d ts st pads) (k:Int)=pinF d ts st pads (valsF d ts st pads) ((k:Int) / perT d) ((k:Int) % perT d - 5):=by
 have hc:ConsP d ts st pads (valsF d ts st pads):=consP_it _ _ _ _ _ _
 have hs:=valsF_step d ts st pads hk
 have hl:=valsF_length d ts st pads
 generalize valsF d ts st pads=vs at *
 rcases Int.lt_or_le (nv vs (k:Int)) 0 with h0|h0
 ·exfalso
  have hv:nodeV d ts st pads vs (k:Int)=pinF d ts st pads vs ((k:Int) / perT d) ((k:Int) % perT d - 5):=by unfold nodeV;rw [if_pos h5]
  unfold stepV at hs
  rw [if_pos ⟨hno,h0,by rw [hv];exact h⟩] at hs
  have h9:=congrArg (fun l=>nv l (k:Int)) hs
  rw [show (k:Int).toNat=k from Int.toNat_natCast k,nv_set (by omega),if_pos (Int.toNat_natCast k),hv] at h9
  omega
 ·exact (hc k hno h5 (by omega) h0).symm
/-! ### the order of the look-up tables -/
structure OrdInv (d:Dev) (ts:List Tile) (pl:List Int) (lt:List Lt):Prop where
 len:pl.length=lt.length
 left:(todoF d ts pl).length+pl.length=(lgL d ts).length
 step:∀(k:Nat) (x:Int),pl[k]?=some x→x∈lgL d ts∧x∉pl.take k∧known d ts (pl.take k) x=true∧lt[k]?.getD Lt.zero=ltOf d ts (pl.take k) x
theorem OrdInv.start (d:Dev) (ts:List Tile):OrdInv d ts [] []:=⟨rfl,by rw [todo_nil];rfl,fun k x h=>by simp at h⟩
theorem OrdInv.next {d:Dev} {ts:List Tile} {pl:List Int} {lt:List Lt} {x:Int} (h:OrdInv d ts pl lt) (hp:pick d ts pl=some x):OrdInv d ts (pl++[x]) (lt++[ltOf d ts pl x]):=by
 obtain ⟨h1,h2,h3⟩:=pick_in hp
 have hm:x∈todoF d ts pl:=List.mem_of_find?_eq_some hp
 obtain ⟨j,hj,hx⟩:=List.getElem_of_mem hm
 have hq:(todoF d ts pl)[j]?=some x:=by rw [List.getElem?_eq_getElem hj,hx]
 refine ⟨by rw [List.length_append,List.length_append,h.len];rfl,?_,fun k y hy=>?_⟩
 ·rw [todo_next hq,List.length_eraseIdx,if_pos hj,List.length_append]
  have:=h.left
  simp only [List.length_cons,List.length_nil]
  omega
 ·rcases Nat.lt_or_ge k pl.length with hk|hk
  ·rw [List.getElem?_append_left hk] at hy
   rw [List.take_append_of_le_length (by omega),List.getElem?_append_left (by rw [←h.len];exact hk)]
   exact h.step k y hy
  ·rw [List.getElem?_append_right hk] at hy
   have hk0:k=pl.length:=by
    have:=(List.getElem?_eq_some_iff.1 hy).1
    simp at this
    omega
   subst hk0
   rw [Nat.sub_self] at hy
   simp only [List.getElem?_cons_zero,Option.some.injEq] at hy
   subst hy
   rw [List.take_left,h.len,List.getElem?_append_right (Nat.le_refl _),Nat.sub_self]
   exact ⟨h1,h2,h3,rfl⟩
theorem ordF_inv {d:Dev} {ts:List Tile}:∀(k:Nat) (pl:List Int) (lt:List Lt) {pl':List Int} {lt':List Lt},ordF d ts k pl lt=some (pl',lt')→OrdInv d ts pl lt→OrdInv d ts pl' lt'∧pl'.length=pl.length+k
 | 0,pl,lt,pl',lt',h,hi=>by
  rw [ordF] at h
  injection h with h
  injection h with h1 h2
  subst h1 h2
  exact ⟨hi,rfl⟩
 | k+1,pl,lt,pl',lt',h,hi=>by
  rw [ordF] at h
  split at h
  ·cases h
  ·rename_i x hx
   have:=ordF_inv k _ _ h (hi.next hx)
   rw [List.length_append] at this
   exact ⟨this.1,by have:=this.2;simp at this;omega⟩
theorem ordA_inv {d:Dev} {ts:List Tile} {pl:List Int} {lt:List Lt} (h:ordA d ts=some (pl,lt)):OrdInv d ts pl lt∧pl.length=(lgL d ts).length∧∀x∈lgL d ts,x∈pl:=by
 unfold ordA at h
 obtain ⟨h1,h2⟩:=ordF_inv _ _ _ h (OrdInv.start d ts)
 rw [List.length_nil,Nat.zero_add] at h2
 refine ⟨h1,h2,fun x hx=>?_⟩
 have h3:todoF d ts pl=[]:=List.eq_nil_of_length_eq_zero (by have:=h1.left;omega)
 rcases Classical.em (x∈pl) with h|h
 ·exact h
 ·exfalso
  have:x∈todoF d ts pl:=by unfold todoF;rw [List.mem_filter];exact ⟨hx,by simpa using h⟩
  rw [h3] at this
  simp at this
end Go.Proofs.YtignkfhdkcgkgaaGreat

namespace Go.Proofs.YtignkfhdkcgkgaaGreat
set_option maxRecDepth 100000
open Go.RowKit Cw

/-- The output pins known so far have the values of their nodes. -/
def PinEq (d:Dev) (ts:List Tile) (vs L:List Int) (pl:List Int):Prop:=∀t p:Int,tileIn d t=true→0≤p→p<outPins (kindOf d t)→0≤ndP d ts pl t p→nv vs (t * perT d+(5+p))=nv L (ndP d ts pl t p)
theorem trace_eq {d:Dev} {ts:List Tile} {st pads:List Int} {L pl:List Int} (hc:CfgOk d ts) (hp:StPads d ts st pads) (hz:nv L 0=0) (h:PinEq d ts (valsF d ts st pads) L pl):∀(f:Nat) (n:Int),nodeOk d n=true→0≤trF d ts pl f n→nv (valsF d ts st pads) n=nv L (trF d ts pl f n)
 | 0,n,_,h0=>by rw [trF] at h0;omega
 | f+1,n,hn,h0=>by
  have hr:=node_range hn
  by_cases h5:n % perT d=5∨n % perT d=6
  ·rw [trS_pin f h5] at h0 ⊢
   obtain ⟨ht,ho⟩:=out_ok hn h5
   have:=h _ _ ht (by omega) ho h0
   rw [show n / perT d * perT d+(5+(n % perT d - 5))=n by have:=Int.mul_ediv_add_emod n (perT d);rw [Int.mul_comm] at this;omega] at this
   exact this
  ·obtain ⟨k,rfl⟩:=Int.eq_ofNat_of_zero_le hr.1
   have hv:=vals_follow hp (k:=k) (by omega) hn h5
   rw [hv]
   unfold drvV
   by_cases hd:drvOf d ts (k:Int)<0
   ·rw [trS_none f h5 hd,if_neg (by omega),hz]
   ·rw [trS_step f h5 hd] at h0 ⊢
    rw [if_pos (by omega)]
    exact trace_eq hc hp hz h f _ (drv_ok hc (by omega)) h0
theorem tr_eq {d:Dev} {ts:List Tile} {st pads:List Int} {L pl:List Int} (hc:CfgOk d ts) (hp:StPads d ts st pads) (hz:nv L 0=0) (h:PinEq d ts (valsF d ts st pads) L pl) {n:Int} (hn:nodeOk d n=true) (h0:0≤tr d ts pl n):nv (valsF d ts st pads) n=nv L (tr d ts pl n):=trace_eq hc hp hz h _ n hn h0
theorem numF_at {base:Int} {l:List Int} {k:Nat} {x:Int} (h:l[k]?=some x) (hx:x∉l.take k):numF base l x=base+(k:Int):=by
 have hm:x∈l:=List.mem_of_getElem? h
 have hk:=(List.getElem?_eq_some_iff.1 h).1
 rw [numF,if_pos hm]
 congr 2
 have e:l=l.take k++(x :: l.drop (k+1)):=by
  have h1:=(List.getElem?_eq_some_iff.1 h).2
  rw [←h1,←List.drop_eq_getElem_cons hk,List.take_append_drop]
 conv=>lhs;rw [e]
 rw [List.idxOf_append,if_neg hx]
 simp
 omega
theorem numF_lt {base:Int} {l:List Int} {x:Int} (hb:0<base):numF base l x<base+(l.length:Int):=by
 unfold numF
 split
 ·rename_i h
  have:=List.idxOf_lt_length_of_mem h
  omega
 ·omega
theorem padTo_mem {d:Dev} {ts:List Tile} {p:Int} {k:Nat} {t:Int} (_h0:0≤t) (h1:t<(k:Int)) (hq:padQ d ts p t.toNat=true):t∈padTo d ts p k:=by
 induction k with
 | zero=>omega
 | succ k ih =>
  rw [padTo,List.mem_append]
  by_cases e:t=(k:Int)
  ·subst e
   rw [Int.toNat_natCast] at hq
   exact .inr (by rw [if_pos hq];simp)
  ·exact .inl (ih (by omega))
theorem padTo_asc (d:Dev) (ts:List Tile) (p:Int) (k:Nat):Asc (padTo d ts p k):=by
 induction k with
 | zero=>simp [padTo,Asc]
 | succ k ih =>
  unfold Asc at *
  rw [padTo,List.pairwise_append]
  refine ⟨ih,by split <;> simp,fun a ha b hb=>?_⟩
  have h1:=(padTo_in ha).2.1
  split at hb
  ·simp only [List.mem_singleton] at hb;omega
  ·simp at hb
theorem owTo_asc (d:Dev) (ts:List Tile) (k:Nat):Asc (owTo d ts k):=by
 induction k with
 | zero=>simp [owTo,Asc]
 | succ k ih =>
  unfold Asc at *
  rw [owTo,List.pairwise_append]
  refine ⟨ih,?_,fun a ha b hb=>?_⟩
  ·unfold owAt
   split
   ·split <;> split <;> simp
    omega
   ·split <;> simp
  ·have h1:=(owTo_in.1 ha).2.1
   have h2:=(owAt_in.1 hb).1
   omega
theorem asc_take {l:List Int} (h:Asc l) {k:Nat} {x:Int} (hx:l[k]?=some x):x∉l.take k:=fun hm=>by
 obtain ⟨j,hj,he⟩:=List.getElem_of_mem hm
 rw [List.length_take] at hj
 rw [List.getElem_take] at he
 obtain ⟨hk,hx⟩:=List.getElem?_eq_some_iff.1 hx
 have:=(List.pairwise_iff_getElem.1 h) j k (by omega) hk (by omega)
 omega
/-- A node that is known is one of the network's. -/
theorem ndP_lt {d:Dev} {ts:List Tile} {pl:List Int} {t p:Int} {k:Nat} (hk:pl.length≤k) (_h0:0≤ndP d ts pl t p):ndP d ts pl t p<ltB d ts+(k:Int):=by
 unfold ndP at *
 have hb:1+((insL d ts).length:Int)≤ltB d ts:=by unfold ltB;omega
 split
 ·have:=(numF_lt (base:=1) (l:=insL d ts) (x:=t) (by omega));omega
 ·split
  ·have:=(numF_lt (base:=sqB d ts) (l:=owL d ts) (x:=2 * t) (by unfold sqB;omega));unfold ltB sqB at *;omega
  ·split
   ·have:=(numF_lt (base:=sqB d ts) (l:=owL d ts) (x:=2 * t+p) (by unfold sqB;omega));unfold ltB sqB at *;omega
   ·split
    ·have:=(numF_lt (base:=ltB d ts) (l:=pl) (x:=2 * t+p) (by unfold ltB;omega));omega
    ·have:0≤ltB d ts:=by unfold ltB;omega
     omega
theorem trF_lt {d:Dev} {ts:List Tile} {pl:List Int} {k:Nat} (hk:pl.length≤k):∀(f:Nat) (n:Int),0≤trF d ts pl f n→trF d ts pl f n<ltB d ts+(k:Int)
 | 0,n,h=>by rw [trF] at h;omega
 | f+1,n,h=>by
  rw [trF] at h ⊢
  split
  ·rename_i h5
   rw [if_pos h5] at h
   exact ndP_lt hk h
  ·rename_i h5
   rw [if_neg h5] at h
   split
   ·have:0<ltB d ts:=by unfold ltB;omega
    omega
   ·rename_i h6
    rw [if_neg h6] at h
    exact trF_lt hk f _ h
theorem selN_lt {d:Dev} {ts:List Tile} {pl:List Int} {y:Int} {j k:Nat} (hk:pl.length≤k) (h0:0≤selN d ts pl y j):selN d ts pl y j<ltB d ts+(k:Int):=by
 unfold selN at *
 split
 ·rename_i h1
  rw [if_pos h1] at h0
  exact trF_lt hk _ _ h0
 ·have:0<ltB d ts:=by unfold ltB;omega
  omega
/-- What the whole is about: a configured device, its states and pads; the network that it is read back to, its state and inputs. -/
structure Both (d:Dev) (ts:List Tile) (st pads:List Int) (pl:List Int) (lt:List Lt) (l:LNet) (nst:List Int) (x:Int):Prop where
 cfg:CfgOk d ts
 fit:StPads d ts st pads
 ord:ordA d ts=some (pl,lt)
 net:disP d ts pl lt=some l
 sta:nst=(owL d ts).map fun y=>nv st y
 inp:∀(i:Nat) (t:Int),(insL d ts)[i]?=some t→nv pads t=lbit x i
namespace Both
variable {d:Dev} {ts:List Tile} {st pads pl:List Int} {lt:List Lt} {l:LNet} {nst:List Int} {x:Int}
theorem parts (h:Both d ts st pads pl lt l nst x):(∀y∈owL d ts,sqOk d ts pl y=true)∧(∀t∈outL d ts,0≤outN d ts pl t)∧l=⟨((insL d ts).length:Int),(owL d ts).map (sqOf d ts pl),lt,(outL d ts).map (outN d ts pl)⟩:=by
 have h1:=h.net
 unfold disP at h1
 split at h1
 ·rename_i hh
  rw [Bool.and_eq_true,List.all_eq_true,List.all_eq_true] at hh
  injection h1 with h1
  exact ⟨hh.1,fun t ht=>by simpa using hh.2 t ht,h1.symm⟩
 ·cases h1
theorem first (h:Both d ts st pads pl lt l nst x):(l.first:Int)=ltB d ts∧l.inputs.toNat=(insL d ts).length∧l.seqs.length=(owL d ts).length∧l.luts=lt:=by
 obtain ⟨_,_,rfl⟩:=h.parts
 refine ⟨?_,?_,by simp,rfl⟩
 ·unfold LNet.first ltB
  simp only [List.length_map]
  omega
 ·simp
theorem len (h:Both d ts st pads pl lt l nst x):nst.length=l.seqs.length:=by rw [h.first.2.2.1,h.sta];simp
theorem zero (h:Both d ts st pads pl lt l nst x):nv (lnVals l nst x) 0=0:=lnVals_zero l nst x h.len
theorem insD (h:Both d ts st pads pl lt l nst x):∀(k:Nat) (j:Nat),k<lt.length→j<4→∃y,pl[k]?=some y∧0≤selN d ts (pl.take k) y j∧(lt[k]?.getD Lt.zero).ins[j]?.getD 0=selN d ts (pl.take k) y j:=fun k j hk hj=>by
 obtain ⟨hi,_,_⟩:=ordA_inv h.ord
 have hkp:k<pl.length:=by rw [hi.len];exact hk
 have hy:pl[k]?=some pl[k]:=List.getElem?_eq_getElem hkp
 obtain ⟨_,_,h3,h4⟩:=hi.step k _ hy
 refine ⟨_,hy,?_,?_⟩
 ·unfold known knownTo at h3
  rw [List.all_eq_true] at h3
  simpa using h3 j (List.mem_range.2 hj)
 ·rw [h4]
  unfold ltOf selTo
  simp only [List.getElem?_map,List.getElem?_range hj,Option.map_some,Option.getD_some]
/-- A selected node of a logic tile exists. -/
theorem selOk (h:Both d ts st pads pl lt l nst x) {y:Int} (hy:y∈lgL d ts) {j:Nat} (hj:j<4):0≤(leX ts y).sel[j]?.getD 0∧(0<(leX ts y).sel[j]?.getD 0→nodeOk d (y / 2 * perT d+(leX ts y).sel[j]?.getD 0 - 1)=true):=by
 have hl:=lgTo_in.1 hy
 have htq:=tiles_eq h.cfg.dev
 have hcl:=h.cfg.len
 have hti:tileIn d (y / 2)=true:=tileIn_iff.2 ⟨h.cfg.dev,by omega,by omega⟩
 have hf:=(le_fit (e:=y % 2) h.cfg hti (by omega)).1
 have hs:=(sel_fit hf).2 j hj
 rw [show leAt ts (y / 2) (y % 2)=leX ts y from rfl] at hs
 refine ⟨hs.1,fun h0=>?_⟩
 have hk:=pin_ok (k:=(leX ts y).sel[j]?.getD 0 - 1) hti (by omega) (by rw [hl.2.2];unfold inPins outPins;simp;omega)
 rwa [←Int.add_sub_assoc] at hk
/-- The pins that show no look-up table. -/
theorem pin0 (h:Both d ts st pads pl lt l nst x):PinEq d ts (valsF d ts st pads) (lnVals l nst x) []:=fun t p ht hp hpo h0=>by
 have hd:=h.cfg.dev
 have hpb:=perT_bd hd
 have htp:=outPins_bd d t
 obtain ⟨_,t0,t1⟩:=tileIn_iff.1 ht
 have hno:=pin_ok (k:=5+p) ht (by omega) (.inr ⟨by omega,by omega,by omega⟩)
 obtain ⟨_,q1,q2⟩:=node_at (k:=5+p) ht (by omega) (by omega)
 have hrr:=node_range hno
 obtain ⟨k,hk⟩:=Int.eq_ofNat_of_zero_le hrr.1
 have hf:=h.first
 have hlen:=h.len
 have hv:0≤pinF d ts st pads (valsF d ts st pads) t p→nv (valsF d ts st pads) (t * perT d+(5+p))=pinF d ts st pads (valsF d ts st pads) t p:=fun hpos=>by
  have:=vals_pin (d:=d) (ts:=ts) (st:=st) (pads:=pads) (k:=k) (by omega) (by rw [←hk];exact hno) (by rw [←hk,q2];omega) (by rw [←hk,q1,q2,show 5+p - 5=p by omega];exact hpos)
  rwa [←hk,q1,q2,show 5+p - 5=p by omega] at this
 unfold ndP at h0 ⊢
 rcases kindOf_bd d t with h1|h1|h1
 ·rw [if_pos h1] at h0 ⊢
  have hpf:pinF d ts st pads (valsF d ts st pads) t p=if (tileAt ts t).pad=1 then nv pads t else 0:=by unfold pinF;rw [if_pos h1]
  rw [hpf] at hv
  by_cases hpad:(tileAt ts t).pad=1
  ·rw [if_pos hpad] at hv
   have hq:padQ d ts 1 t.toNat=true:=by
    unfold padQ
    rw [show ((t.toNat:Nat):Int)=t by omega,decide_eq_true h1,decide_eq_true hpad];rfl
   have hm:t∈insL d ts:=padTo_mem (by omega) (by have:=tiles_eq hd;have:=h.cfg.len;omega) hq
   obtain ⟨i,hi,he⟩:=List.getElem_of_mem hm
   have hg:(insL d ts)[i]?=some t:=by rw [List.getElem?_eq_getElem hi,he]
   have hpb:=h.fit.pad t ht h1
   rw [hv hpb.1,h.inp i t hg,numF_at hg (asc_take (padTo_asc d ts 1 ts.length) hg)]
   have:=lnVals_in l nst x (i:=i) (by omega) hlen
   rw [←this]
   congr 1
  ·rw [if_neg hpad] at hv
   have hm:t∉insL d ts:=fun hm=>by
    have:=(padTo_in hm).2.2
    unfold padQ at this
    rw [Bool.and_eq_true,show ((t.toNat:Nat):Int)=t by omega] at this
    exact hpad (by simpa using this.2)
   rw [hv (Int.le_refl _),numF,if_neg hm,h.zero]
 ·rw [if_neg (by omega),if_neg (by omega)] at h0 ⊢
  by_cases hfl:(leX ts (2 * t+p)).flop=1
  ·rw [if_pos hfl] at h0 ⊢
   have hp01:p=0∨p=1:=by omega
   have hle:leX ts (2 * t+p)=leAt ts t p:=leX_eq ts t p hp (by omega)
   have hpf:pinF d ts st pads (valsF d ts st pads) t p=nv st (2 * t+p):=by unfold pinF;rw [if_neg (by omega),if_neg (by omega),←hle,if_pos hfl]
   have hb:=h.fit.sta t p ht h1 hp (by omega)
   rw [hpf] at hv
   have hm:2 * t+p∈owL d ts:=owTo_in.2 ⟨by omega,by have:=tiles_eq hd;have:=h.cfg.len;omega,.inl ⟨by rw [(half_two t hp (by omega)).1];exact h1,hfl⟩⟩
   obtain ⟨i,hi,he⟩:=List.getElem_of_mem hm
   have hg:(owL d ts)[i]?=some (2 * t+p):=by rw [List.getElem?_eq_getElem hi,he]
   rw [hv hb.1,numF_at hg (asc_take (owTo_asc d ts ts.length) hg)]
   have hse:=lnVals_st l nst x (i:=i) (by omega) hlen
   have hgi:nst[i]?.getD 0=nv st (2 * t+p):=by rw [h.sta,List.getElem?_map,hg];rfl
   rw [hgi] at hse
   rw [show sqB d ts+(i:Int)=((1+l.inputs.toNat+i:Nat):Int) by unfold sqB;omega,hse]
   omega
  ·rw [if_neg hfl,if_neg (by simp)] at h0
   omega
 ·rw [if_neg (by omega),if_pos h1] at h0 ⊢
  have hpf:pinF d ts st pads (valsF d ts st pads) t p=nv st (2 * t) % 2:=by unfold pinF;rw [if_neg (by omega),if_pos h1]
  rw [hpf] at hv
  have hm:2 * t∈owL d ts:=owTo_in.2 ⟨by omega,by have:=tiles_eq hd;have:=h.cfg.len;omega,.inr ⟨by rw [show 2 * t / 2=t by omega];exact h1,by omega⟩⟩
  obtain ⟨i,hi,he⟩:=List.getElem_of_mem hm
  have hg:(owL d ts)[i]?=some (2 * t):=by rw [List.getElem?_eq_getElem hi,he]
  rw [hv (by omega),numF_at hg (asc_take (owTo_asc d ts ts.length) hg)]
  have hse:=lnVals_st l nst x (i:=i) (by omega) hlen
  have hgi:nst[i]?.getD 0=nv st (2 * t):=by rw [h.sta,List.getElem?_map,hg];rfl
  rw [hgi] at hse
  rw [show sqB d ts+(i:Int)=((1+l.inputs.toNat+i:Nat):Int) by unfold sqB;omega,hse]
/-- What a look-up table shows, once all that it selects is known. -/
theorem lutEq (h:Both d ts st pads pl lt l nst x) {k:Nat} {y:Int} (hy:pl[k]?=some y) (hp:PinEq d ts (valsF d ts st pads) (lnVals l nst x) (pl.take k)):lutF d (valsF d ts st pads) (y / 2) (leX ts y)=nv (lnVals l nst x) (ltB d ts+(k:Int)):=by
 obtain ⟨hi,hpl,_⟩:=ordA_inv h.ord
 have hf:=h.first
 have hkl:k<lt.length:=by rw [←hi.len];exact (List.getElem?_eq_some_iff.1 hy).1
 obtain ⟨hyl,hyn,_,hlt⟩:=hi.step k y hy
 have h2:In2 (lnVals l nst x):=in2_to l nst x _
 have hsel:∀j,j<4→selV d (valsF d ts st pads) (y / 2) ((leX ts y).sel[j]?.getD 0)=nv (lnVals l nst x) ((lt[k]?.getD Lt.zero).ins[j]?.getD 0):=fun j hj=>by
  obtain ⟨y',hy',h0,he⟩:=h.insD k j hkl hj
  rw [hy] at hy'
  injection hy' with hy'
  subst hy'
  rw [he]
  have hso:=h.selOk hyl hj
  unfold selN at h0 ⊢
  unfold selV
  by_cases hs:0<(leX ts y).sel[j]?.getD 0
  ·rw [if_pos hs] at h0
   rw [if_pos hs,if_pos hs]
   exact tr_eq h.cfg h.fit h.zero hp (hso.2 hs) h0
  ·rw [if_neg hs,if_neg (by omega),h.zero]
 have hneg:negTo d (valsF d ts st pads) (y / 2) (leX ts y).sel 4=false:=by
  have:∀m,m≤4→negTo d (valsF d ts st pads) (y / 2) (leX ts y).sel m=false:=fun m=>by
   induction m with
   | zero=>intro _;rfl
   | succ m ih =>
    intro hm
    rw [negTo,ih (by omega),hsel m (by omega),Bool.false_or,decide_eq_false_iff_not]
    have:=(h2 ((lt[k]?.getD Lt.zero).ins[m]?.getD 0)).1
    omega
  exact this 4 (Nat.le_refl _)
 have hidx:idxTo d (valsF d ts st pads) (y / 2) (leX ts y).sel 4=pkTo (lnVals l nst x) (lt[k]?.getD Lt.zero).ins 4:=by
  have:∀m,m≤4→idxTo d (valsF d ts st pads) (y / 2) (leX ts y).sel m=pkTo (lnVals l nst x) (lt[k]?.getD Lt.zero).ins m:=fun m=>by
   induction m with
   | zero=>intro _;rfl
   | succ m ih =>
    intro hm
    rw [idxTo,pkTo,ih (by omega),hsel m (by omega)]
  exact this 4 (Nat.le_refl _)
 have hil:(lt[k]?.getD Lt.zero).ins.length=4:=by rw [hlt];exact selTo_length _ _ _ _ _
 have hmask:(lt[k]?.getD Lt.zero).mask=(leX ts y).mask:=by rw [hlt];rfl
 have hv:=lnVals_lut l h.len x (k:=k) (by rw [hf.2.2.2];exact hkl) (by
  rw [hf.2.2.2]
  intro n hn
  obtain ⟨j,hj,rfl⟩:=List.getElem_of_mem hn
  obtain ⟨y',hy',h0,he⟩:=h.insD k j hkl (by omega)
  rw [List.getElem?_eq_getElem hj,Option.getD_some] at he
  rw [he]
  exact ⟨h0,by rw [hf.1];exact selN_lt (by rw [←hi.len] at hkl;rw [List.length_take];omega) h0⟩)
 rw [←hf.1,show (l.first:Int)+(k:Int)=((l.first+k:Nat):Int) by omega,hv]
 unfold lutF lutV pk
 rw [if_neg (by rw [hneg];simp),hidx,hf.2.2.2,hil,hmask]
end Both
end Go.Proofs.YtignkfhdkcgkgaaGreat
