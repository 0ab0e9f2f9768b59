/- The values of a device's nodes in plain terms: sweeps over the nodes until nothing changes. Plain lemmas. SeqNext of a memory, both: one answer. The values, steps and runs of a network of look-up tables, in plain terms. Plain lemmas. Look-up tables and output pins of the program's emulator. -/
import Derived.Test.YtignkfhdkcgkgaaGreatEmpty
import Derived.Test.YtignkfhdkcgkgaaGreatHar
import Derived.Test.YtignkfhdkcgkgaaGreatRq
import Derived.Test.YtignkfhdkcgkgaaGreatTrcS
namespace Go.Proofs.YtignkfhdkcgkgaaGreat
set_option maxRecDepth 100000
open Go.RowKit Cw

def nv (vs:List Int) (i:Int):Int:=vs[i.toNat]?.getD 0
def selV (d:Dev) (vs:List Int) (t s:Int):Int:=if s>0 then nv vs (t * perT d+s - 1) else 0
def negTo (d:Dev) (vs:List Int) (t:Int) (sel:List Int):Nat→Bool
 | 0=>false
 | j+1=>negTo d vs t sel j || decide (selV d vs t (sel[j]?.getD 0)<0)
def idxTo (d:Dev) (vs:List Int) (t:Int) (sel:List Int):Nat→Nat
 | 0=>0
 | j+1=>idxTo d vs t sel j+(selV d vs t (sel[j]?.getD 0)).toNat * 2 ^ j
def lutF (d:Dev) (vs:List Int) (t:Int) (e:Le):Int:=if negTo d vs t e.sel 4=true then -1 else ((bit e.mask.toNat (idxTo d vs t e.sel 4):Nat):Int)
def leAt (ts:List Tile) (t e:Int):Le:=(tileAt ts t).les[e.toNat]?.getD Le.zero
def pinF (d:Dev) (ts:List Tile) (st pads vs:List Int) (t e:Int):Int :=
 if kindOf d t=0 then (if (tileAt ts t).pad=1 then nv pads t else 0) else if kindOf d t=2 then nv st (2 * t) % 2 else if (leAt ts t e).flop=1 then nv st (2 * t+e) else lutF d vs t (leAt ts t e)
def nodeV (d:Dev) (ts:List Tile) (st pads vs:List Int) (n:Int):Int :=
 if n % perT d=5∨n % perT d=6 then pinF d ts st pads vs (n / perT d) (n % perT d - 5) else if 0≤drvOf d ts n then nv vs (drvOf d ts n) else 0
def stepV (d:Dev) (ts:List Tile) (st pads vs:List Int) (n:Int):List Int :=
 if nodeOk d n=true∧nv vs n<0∧0≤nodeV d ts st pads vs n then vs.set n.toNat (nodeV d ts st pads vs n) else vs
def sweepTo (d:Dev) (ts:List Tile) (st pads vs:List Int):Nat→List Int
 | 0=>vs
 | k+1=>stepV d ts st pads (sweepTo d ts st pads vs k) (k:Int)
def itV (d:Dev) (ts:List Tile) (st pads:List Int) (N:Nat):Nat→List Int
 | 0=>List.replicate N (-1)
 | j+1=>sweepTo d ts st pads (itV d ts st pads N j) N
def valsF (d:Dev) (ts:List Tile) (st pads:List Int):List Int:=itV d ts st pads (nodesOf d).toNat ((nodesOf d).toNat+1)
def cntV (vs:List Int):Nat:=(vs.filter fun x=>decide (0≤x)).length
/-- Undetermined, 0 or 1. -/
def In3 (vs:List Int):Prop:=∀x∈vs,-1≤x∧x≤1
theorem in3_nv {vs:List Int} (h:In3 vs) (i:Int):-1≤nv vs i∧nv vs i≤1:=by
 unfold nv
 rcases Nat.lt_or_ge i.toNat vs.length with hlt|hge
 ·rw [List.getElem?_eq_getElem hlt];exact h _ (List.getElem_mem hlt)
 ·rw [List.getElem?_eq_none hge];simp
theorem in3_set {vs:List Int} (h:In3 vs) (k:Nat) {x:Int} (hx:-1≤x∧x≤1):In3 (vs.set k x):=by
 intro y hy
 rcases List.mem_or_eq_of_mem_set hy with hy|rfl
 ·exact h y hy
 ·exact hx
theorem in3_rep (N:Nat):In3 (List.replicate N (-1)):=by intro x hx;rw [List.mem_replicate] at hx;omega
theorem selV_in {d:Dev} {vs:List Int} (h:In3 vs) (t s:Int):-1≤selV d vs t s∧selV d vs t s≤1:=by
 unfold selV
 split
 ·exact in3_nv h _
 ·omega
theorem idxTo_lt {d:Dev} {vs:List Int} (h:In3 vs) (t:Int) (sel:List Int) (j:Nat):idxTo d vs t sel j<2 ^ j:=by
 induction j with
 | zero=>simp [idxTo]
 | succ j ih =>
  have:=selV_in (d:=d) h t (sel[j]?.getD 0)
  rw [idxTo,Nat.pow_succ]
  have h2:(selV d vs t (sel[j]?.getD 0)).toNat≤1:=by omega
  have:=Nat.mul_le_mul_right (2 ^ j) h2
  omega
theorem negTo_mono {d : Dev} {vs : List Int} {t : Int} {sel : List Int} {j k : Nat} (hjk : j ≤ k) (h : negTo d vs t sel j = true) : negTo d vs t sel k = true := by
  induction k with
  | zero => obtain rfl : j = 0 := by omega
            exact h
  | succ k ih =>
    rcases Nat.lt_or_ge k j with hlt | hge
    · obtain rfl : j = k + 1 := by omega
      exact h
    · rw [negTo, ih hge]; rfl
theorem lutF_in (d:Dev) (vs:List Int) (t:Int) (e:Le):-1≤lutF d vs t e∧lutF d vs t e≤1:=by
 unfold lutF
 split
 ·omega
 ·have:=bit_le e.mask.toNat (idxTo d vs t e.sel 4);omega
/-- States and pads that fit: what the output pins read is 0 or 1. -/
structure StPads (d:Dev) (ts:List Tile) (st pads:List Int):Prop where
 pad:∀t,tileIn d t=true→kindOf d t=0→0≤nv pads t∧nv pads t≤1
 sta:∀t e,tileIn d t=true→kindOf d t=1→0≤e→e≤1→0≤nv st (2 * t+e)∧nv st (2 * t+e)≤1
 ram:∀t,tileIn d t=true→kindOf d t=2→0≤nv st (2 * t)∧nv st (2 * t)≤31
theorem pinF_in {d:Dev} {ts:List Tile} {st pads vs:List Int} (h:StPads d ts st pads) {t e:Int} (ht:tileIn d t=true) (he:0≤e∧e≤1):-1≤pinF d ts st pads vs t e∧pinF d ts st pads vs t e≤1:=by
 unfold pinF
 rcases kindOf_bd d t with hk|hk|hk
 ·rw [if_pos hk];split
  ·have:=h.pad t ht hk;omega
  ·omega
 ·rw [if_neg (by omega),if_neg (by omega)];split
  ·have:=h.sta t e ht hk he.1 he.2;omega
  ·exact lutF_in _ _ _ _
 ·rw [if_neg (by omega),if_pos hk];omega
theorem nodeV_in {d:Dev} {ts:List Tile} {st pads vs:List Int} (h:StPads d ts st pads) (hv:In3 vs) {n:Int} (hn:nodeIn d n=true):-1≤nodeV d ts st pads vs n∧nodeV d ts st pads vs n≤1:=by
 unfold nodeV
 split
 ·exact pinF_in h (node_tile hn) (by omega)
 ·split
  ·exact in3_nv hv _
  ·omega
theorem stepV_length (d:Dev) (ts:List Tile) (st pads vs:List Int) (n:Int):(stepV d ts st pads vs n).length=vs.length:=by unfold stepV;split <;> simp
theorem sweepTo_length (d:Dev) (ts:List Tile) (st pads vs:List Int) (k:Nat):(sweepTo d ts st pads vs k).length=vs.length:=by
 induction k with
 | zero=>rfl
 | succ k ih=>rw [sweepTo,stepV_length,ih]
theorem itV_length (d:Dev) (ts:List Tile) (st pads:List Int) (N j:Nat):(itV d ts st pads N j).length=N:=by
 induction j with
 | zero=>simp [itV]
 | succ j ih=>rw [itV,sweepTo_length,ih]
theorem stepV_in {d:Dev} {ts:List Tile} {st pads vs:List Int} (h:StPads d ts st pads) (hv:In3 vs) (n:Int):In3 (stepV d ts st pads vs n):=by
 unfold stepV
 split
 ·rename_i hc
  have hni:nodeIn d n=true:=by have:=hc.1;unfold nodeOk at this;rw [Bool.and_eq_true] at this;exact this.1
  exact in3_set hv _ (nodeV_in h hv hni)
 ·exact hv
theorem sweepTo_in {d:Dev} {ts:List Tile} {st pads vs:List Int} (h:StPads d ts st pads) (hv:In3 vs) (k:Nat):In3 (sweepTo d ts st pads vs k):=by
 induction k with
 | zero=>exact hv
 | succ k ih=>exact stepV_in h ih _
theorem itV_in {d:Dev} {ts:List Tile} {st pads:List Int} (h:StPads d ts st pads) (N j:Nat):In3 (itV d ts st pads N j):=by
 induction j with
 | zero=>exact in3_rep N
 | succ j ih=>exact sweepTo_in h ih _
theorem cntV_set {vs:List Int} {k:Nat} (hk:k<vs.length) (h:vs[k]?.getD 0<0) {x:Int} (hx:0≤x):cntV (vs.set k x)=cntV vs+1:=by
 induction vs generalizing k with
 | nil=>simp at hk
 | cons y vs ih =>
  cases k with
  | zero =>
   simp only [List.getElem?_cons_zero,Option.getD_some] at h
   unfold cntV
   rw [List.set_cons_zero,List.filter_cons_of_pos (by simpa using hx),List.filter_cons_of_neg (by simp;omega)]
   simp
  | succ k =>
   have:=ih (k:=k) (by simpa using hk) (by simpa using h)
   unfold cntV at *
   rw [List.set_cons_succ,List.filter_cons,List.filter_cons]
   split <;> simp [this]
theorem cntV_le (vs:List Int):cntV vs≤vs.length:=List.length_filter_le _ _
/-- A step changes nothing, or determines one node more. -/
theorem stepV_cnt (d:Dev) (ts:List Tile) (st pads vs:List Int) (n:Int):(stepV d ts st pads vs n=vs)∨cntV (stepV d ts st pads vs n)=cntV vs+1:=by
 unfold stepV
 split
 ·rename_i hc
  rcases Nat.lt_or_ge n.toNat vs.length with hlt|hge
  ·exact .inr (cntV_set hlt hc.2.1 hc.2.2)
  ·have:=hc.2.1
   unfold nv at this
   rw [List.getElem?_eq_none hge] at this
   simp at this
 ·exact .inl rfl
theorem sweepTo_cnt (d:Dev) (ts:List Tile) (st pads vs:List Int) (k:Nat):cntV vs≤cntV (sweepTo d ts st pads vs k)∧(cntV (sweepTo d ts st pads vs k)=cntV vs→sweepTo d ts st pads vs k=vs):=by
 induction k with
 | zero=>exact ⟨Nat.le_refl _,fun _=>rfl⟩
 | succ k ih =>
  rw [sweepTo]
  rcases stepV_cnt d ts st pads (sweepTo d ts st pads vs k) (k:Int) with h|h
  ·rw [h];exact ih
  ·rw [h];exact ⟨by omega,fun h2=>by omega⟩
theorem itV_fix {d:Dev} {ts:List Tile} {st pads:List Int} {N j:Nat} (h:sweepTo d ts st pads (itV d ts st pads N j) N=itV d ts st pads N j):∀i,itV d ts st pads N (j+i)=itV d ts st pads N j
 | 0=>rfl
 | i+1=>by rw [←Nat.add_assoc,itV,itV_fix h i,h]
theorem valsF_of {d:Dev} {ts:List Tile} {st pads:List Int} {j:Nat} (hj:j≤(nodesOf d).toNat) (h:sweepTo d ts st pads (itV d ts st pads (nodesOf d).toNat j) (nodesOf d).toNat=itV d ts st pads (nodesOf d).toNat j):valsF d ts st pads=itV d ts st pads (nodesOf d).toNat j:=by
 have:=itV_fix h ((nodesOf d).toNat+1 - j)
 rw [show j+((nodesOf d).toNat+1 - j)=(nodesOf d).toNat+1 by omega] at this
 exact this
theorem valsF_length (d:Dev) (ts:List Tile) (st pads:List Int):(valsF d ts st pads).length=(nodesOf d).toNat:=itV_length _ _ _ _ _ _
/-- After as many sweeps as there are nodes nothing changes. -/
theorem valsF_fix (d:Dev) (ts:List Tile) (st pads:List Int):sweepTo d ts st pads (valsF d ts st pads) (nodesOf d).toNat=valsF d ts st pads:=by
 unfold valsF
 generalize (nodesOf d).toNat=N
 have key:∀j,(sweepTo d ts st pads (itV d ts st pads N j) N=itV d ts st pads N j)∨j+1≤cntV (itV d ts st pads N (j+1)):=by
  intro j
  induction j with
  | zero =>
   have:=sweepTo_cnt d ts st pads (itV d ts st pads N 0) N
   change cntV (itV d ts st pads N 0)≤cntV (itV d ts st pads N (0+1))∧(cntV (itV d ts st pads N (0+1))=cntV (itV d ts st pads N 0)→_) at this
   rcases Nat.lt_or_ge (cntV (itV d ts st pads N 0)) (cntV (itV d ts st pads N (0+1))) with hlt|hge
   ·exact .inr (by omega)
   ·exact .inl (this.2 (by omega))
  | succ j ih =>
   rcases ih with h|h
   ·left
    have:=itV_fix h 1
    rw [this];exact h
   ·have:=sweepTo_cnt d ts st pads (itV d ts st pads N (j+1)) N
    change cntV (itV d ts st pads N (j+1))≤cntV (itV d ts st pads N (j+1+1))∧(cntV (itV d ts st pads N (j+1+1))=cntV (itV d ts st pads N (j+1))→_) at this
    rcases Nat.lt_or_ge (cntV (itV d ts st pads N (j+1))) (cntV (itV d ts st pads N (j+1+1))) with hlt|hge
    ·exact .inr (by omega)
    ·exact .inl (this.2 (by omega))
 rcases key (N+1) with h|h
 ·exact h
 ·have:=cntV_le (itV d ts st pads N (N+1+1))
  rw [itV_length] at this
  omega

/-! ### which nodes are determined does not depend on the state or the pads -/
theorem nv_set {vs:List Int} {k:Nat} (hk:k<vs.length) (x i:Int):nv (vs.set k x) i=if i.toNat=k then x else nv vs i:=by
 unfold nv
 rw [List.getElem?_set]
 split
 ·rename_i h
  subst h
  simp
 ·rename_i h
  rw [if_neg (fun e=>h e.symm)]
end Go.Proofs.YtignkfhdkcgkgaaGreat

namespace Go.Proofs.YtignkfhdkcgkgaaGreat
set_option maxRecDepth 100000
open Go.RowKit

/-- The next state of a memory of four bits and an output bit. -/
def ramOut (v a:Nat):Nat:=v / 2 * 2+v / 2 ^ a % 2
def ramNext (v i:Nat):Nat:=if i / 8 % 2=1 then ramOut v (i % 4+1) - ramOut v (i % 4+1) / 2 ^ (i % 4+1) % 2 * 2 ^ (i % 4+1)+i / 4 % 2 * 2 ^ (i % 4+1) else ramOut v (i % 4+1)
theorem ramNext_le (v i:Nat) (hv:v≤31) (hi:i≤15):ramNext v i≤31:=by
 have h:∀v:Fin 32,∀i:Fin 16,ramNext v.val i.val≤31:=by decide +kernel
 exact h ⟨v,by omega⟩ ⟨i,by omega⟩
set_option maxHeartbeats 1000000 in
theorem seqMost_ram (w:World):Calls Tryz.prog 203 #[.int .i64 1] w fun e w'=>e = .returned (.int .i64 31)∧w'=w:=by
 go_enter Tryz.func203,Tryz.ntmps203
 go_wp2_with fail
 go_ret
 exact ⟨rfl,rfl⟩
set_option maxHeartbeats 1000000 in
theorem seqNext_ram (v i:Nat) (hv:v≤31) (hi:i≤15) (w:World) :
  Calls Tryz.prog 151 #[.int .i64 1,.int .i64 (v:Int),.int .i64 (i:Int)] w fun e w'=>e = .returned (.int .i64 (ramNext v i:Nat))∧w'=w:=by
 have hin:inR (v:Int) 0 31=true:=inR_iff.2 ⟨by omega,by omega⟩
 go_enter Tryz.func151,Tryz.ntmps151
 go_wp2_with (first|(go_at_call 203;refine (seqMost_ram _).mono ?_;rintro e w' ⟨rfl,rfl⟩)|(go_at_call 116;refine (inRange_any _ _ _ _).mono ?_;rintro e w' ⟨rfl,rfl⟩;rw [hin]))
 all_goals
  rename_i hc
  clear hin
  go_ret
  refine ⟨ret_int ?_,rfl⟩
  obtain ⟨v,rfl⟩:∃x:Fin 32,v=x.val:=⟨⟨v,by omega⟩,rfl⟩
  obtain ⟨i,rfl⟩:∃x:Fin 16,i=x.val:=⟨⟨i,by omega⟩,rfl⟩
  clear hv hi
  revert i v
  decide +kernel
end Go.Proofs.YtignkfhdkcgkgaaGreat

namespace Go.Proofs.YtignkfhdkcgkgaaGreat
set_option maxRecDepth 100000
open Go.RowKit Cw

theorem and1_bd (x:Int):0≤bits .and .i64 x 1∧bits .and .i64 x 1≤1:=by
 have h:bits .and .i64 x 1=(((BitVec.ofInt 64 x).toNat % 2:Nat):Int):=by
  show IntKind.i64.wrap ((BitVec.ofInt 64 x &&& BitVec.ofInt 64 (1:Int)).toNat:Int)=_
  rw [BitVec.toNat_and,show (BitVec.ofInt 64 (1:Int)).toNat=1 by decide,Nat.and_one_is_mod,IntKind.wrap_i64]
  omega
 rw [h]
 omega
/-- Bit k of a number. -/
def lbit (b:Int) (k:Nat):Int:=bits .and .i64 (b / 2 ^ k) 1
def pkTo (vs ns:List Int):Nat→Nat
 | 0=>0
 | k+1=>pkTo vs ns k+(nv vs (ns[k]?.getD 0)).toNat * 2 ^ k
/-- The number with the values of nodes as bits. -/
def pk (vs ns:List Int):Nat:=pkTo vs ns ns.length
def LNet.first (l:LNet):Nat:=1+l.inputs.toNat+l.seqs.length
def LNet.count (l:LNet):Nat:=l.first+l.luts.length
def lnBase (l:LNet) (st:List Int) (x:Int):List Int:=0 :: ((List.range l.inputs.toNat).map (lbit x)++st.map fun (y:Int)=>y % 2)
def lutV (l:LNet) (vs:List Int) (k:Nat):Int:=((bit (l.luts[k]?.getD Lt.zero).mask.toNat (pk vs (l.luts[k]?.getD Lt.zero).ins):Nat):Int)
def lnTo (l:LNet) (st:List Int) (x:Int):Nat→List Int
 | 0=>lnBase l st x++List.replicate l.luts.length 0
 | k+1=>(lnTo l st x k).set (l.first+k) (lutV l (lnTo l st x k) k)
def lnVals (l:LNet) (st:List Int) (x:Int):List Int:=lnTo l st x l.luts.length
def sqNx (k y:Int) (i:Nat):Int:=if k=1 then ((ramNext y.toNat i:Nat):Int) else ((i % 2:Nat):Int)
def lnNx (l:LNet) (st vs:List Int) (i:Nat):Int:=sqNx (l.seqs[i]?.getD Sq.zero).kind (st[i]?.getD 0) (pk vs (l.seqs[i]?.getD Sq.zero).ins)
def lnNext (l:LNet) (st:List Int) (x:Int):List Int:=(List.range l.seqs.length).map (lnNx l st (lnVals l st x))
def lnOut (l:LNet) (st:List Int) (x:Int):Int:=((pk (lnVals l st x) l.outs:Nat):Int)
def lnStart (l:LNet):List Int:=l.seqs.map Sq.init
def lnSt (l:LNet) (xs:List Int):Nat→List Int
 | 0=>lnStart l
 | k+1=>lnNext l (lnSt l xs k) (xs[k]?.getD 0)
def lnRun (l:LNet) (xs:List Int):List Int:=(List.range xs.length).map fun k=>lnOut l (lnSt l xs k) (xs[k]?.getD 0)
/-! ### lengths and values -/
def In2 (vs:List Int):Prop:=∀i:Int,0≤nv vs i∧nv vs i≤1
theorem lbit_in (b:Int) (k:Nat):0≤lbit b k∧lbit b k≤1:=by
 unfold lbit
 exact and1_bd _
theorem pkTo_lt {vs:List Int} (h:In2 vs) (ns:List Int) (k:Nat):pkTo vs ns k<2 ^ k:=by
 induction k with
 | zero=>simp [pkTo]
 | succ k ih =>
  have hm:=h (ns[k]?.getD 0)
  rw [pkTo,Nat.pow_succ]
  have h2:(nv vs (ns[k]?.getD 0)).toNat * 2 ^ k≤1 * 2 ^ k:=Nat.mul_le_mul_right _ (by omega)
  omega
theorem lnBase_length (l:LNet) {st:List Int} (hs:st.length=l.seqs.length) (x:Int):(lnBase l st x).length=l.first:=by
 unfold lnBase LNet.first
 simp
 omega
theorem lnTo_length (l:LNet) {st:List Int} (hs:st.length=l.seqs.length) (x:Int) (k:Nat):(lnTo l st x k).length=l.count:=by
 induction k with
 | zero=>rw [lnTo,List.length_append,lnBase_length l hs,List.length_replicate];rfl
 | succ k ih=>rw [lnTo,List.length_set,ih]
theorem in2_set {vs:List Int} (h:In2 vs) (k:Nat) {x:Int} (hx:0≤x∧x≤1):In2 (vs.set k x):=fun i=>by
 unfold nv
 rw [List.getElem?_set]
 split
 ·split
  ·exact hx
  ·simp
 ·exact h i
theorem in2_base (l:LNet) (st:List Int) (x:Int):In2 (lnBase l st x++List.replicate l.luts.length 0):=fun i=>by
 unfold nv
 rcases Nat.lt_or_ge i.toNat (lnBase l st x++List.replicate l.luts.length 0).length with h|h
 ·rw [List.getElem?_eq_getElem h,Option.getD_some]
  have hm:=List.getElem_mem h
  generalize (lnBase l st x++List.replicate l.luts.length 0)[i.toNat]=y at *
  rcases List.mem_append.1 hm with hm|hm
  ·unfold lnBase at hm
   rcases List.mem_cons.1 hm with rfl|hm
   ·omega
   ·rcases List.mem_append.1 hm with hm|hm
    ·obtain ⟨k,_,rfl⟩:=List.mem_map.1 hm
     exact lbit_in x k
    ·obtain ⟨k,_,rfl⟩:=List.mem_map.1 hm
     omega
  ·have:=(List.mem_replicate.1 hm).2
   omega
 ·rw [List.getElem?_eq_none h];simp
theorem in2_to (l:LNet) (st:List Int) (x:Int) (k:Nat):In2 (lnTo l st x k):=by
 induction k with
 | zero=>exact in2_base l st x
 | succ k ih=>exact in2_set ih _ (by unfold lutV;have:=bit_le (l.luts[k]?.getD Lt.zero).mask.toNat (pk (lnTo l st x k) (l.luts[k]?.getD Lt.zero).ins);omega)
/-- A node below the k-th look-up table keeps its value from then on. -/
theorem lnTo_keep (l : LNet) (st : List Int) (x : Int) {k j : Nat} (hkj : k ≤ j) {i : Nat} (hi : i < l.first + k) : nv (lnTo l st x j) (i : Int) = nv (lnTo l st x k) (i : Int) := by
  induction j with
  | zero => obtain rfl : k = 0 := by omega
            rfl
  | succ j ih =>
    rcases Nat.lt_or_ge j k with h | h
    · obtain rfl : k = j + 1 := by omega
      rfl
    · rw [← ih h, lnTo]
      unfold nv
      rw [List.getElem?_set_ne (by rw [Int.toNat_natCast]; omega)]
theorem pkTo_same {vs ws ns:List Int} {k:Nat} (h:∀j,j<k→nv vs (ns[j]?.getD 0)=nv ws (ns[j]?.getD 0)):pkTo vs ns k=pkTo ws ns k:=by
 induction k with
 | zero=>rfl
 | succ k ih=>rw [pkTo,pkTo,ih fun j hj=>h j (by omega),h k (by omega)]
/-- What a look-up table shows in the end. -/
theorem lnVals_lut (l:LNet) {st:List Int} (hs:st.length=l.seqs.length) (x:Int) {k:Nat} (hk:k<l.luts.length) (hi:∀n∈(l.luts[k]?.getD Lt.zero).ins,0≤n∧n<(l.first:Int)+(k:Int)):nv (lnVals l st x) ((l.first+k:Nat):Int)=lutV l (lnVals l st x) k:=by
 unfold lnVals
 rw [lnTo_keep l st x (k:=k+1) (by omega) (by omega),lnTo]
 have hv:lutV l (lnTo l st x k) k=lutV l (lnTo l st x l.luts.length) k:=by
  unfold lutV pk
  rw [pkTo_same fun j hj=>?_]
  have hm:=hi _ (List.getElem_mem hj)
  rw [List.getElem?_eq_getElem hj,Option.getD_some]
  obtain ⟨a,ha⟩:=Int.eq_ofNat_of_zero_le hm.1
  rw [ha] at hm ⊢
  exact (lnTo_keep l st x (k:=k) (j:=l.luts.length) (by omega) (i:=a) (by omega)).symm
 rw [hv]
 unfold nv
 rw [Int.toNat_natCast,List.getElem?_set_self (by rw [lnTo_length l hs];unfold LNet.count;omega),Option.getD_some]
theorem lnVals_base (l:LNet) (st:List Int) (x:Int) {i:Nat} (hi:i<l.first) (hs:st.length=l.seqs.length):nv (lnVals l st x) (i:Int)=(lnBase l st x)[i]?.getD 0:=by
 unfold lnVals
 rw [lnTo_keep l st x (k:=0) (by omega) (by omega),lnTo]
 unfold nv
 rw [Int.toNat_natCast,List.getElem?_append_left (by rw [lnBase_length l hs];exact hi)]
theorem lnVals_zero (l:LNet) (st:List Int) (x:Int) (hs:st.length=l.seqs.length):nv (lnVals l st x) 0=0:=by
 have:=lnVals_base l st x (i:=0) (by unfold LNet.first;omega) hs
 rw [show (0:Int)=((0:Nat):Int) from rfl,this]
 rfl
theorem lnVals_in (l:LNet) (st:List Int) (x:Int) {i:Nat} (hi:i<l.inputs.toNat) (hs:st.length=l.seqs.length):nv (lnVals l st x) ((1+i:Nat):Int)=lbit x i:=by
 rw [lnVals_base l st x (by unfold LNet.first;omega) hs,Nat.add_comm]
 unfold lnBase
 rw [List.getElem?_cons_succ,List.getElem?_append_left (by simpa using hi),List.getElem?_map,List.getElem?_range hi]
 rfl
theorem lnVals_st (l:LNet) (st:List Int) (x:Int) {i:Nat} (hi:i<st.length) (hs:st.length=l.seqs.length):nv (lnVals l st x) ((1+l.inputs.toNat+i:Nat):Int)=st[i]?.getD 0 % 2:=by
 rw [lnVals_base l st x (by unfold LNet.first;omega) hs,show 1+l.inputs.toNat+i=(l.inputs.toNat+i)+1 by omega]
 unfold lnBase
 rw [List.getElem?_cons_succ,List.getElem?_append_right (by simp),List.getElem?_map]
 simp [List.getElem?_eq_getElem hi]
/-! ### networks that are valid -/
structure NetFit (l:LNet):Prop where
 inp:0≤l.inputs∧l.inputs≤20
 nseq:l.seqs.length≤12
 nlut:l.luts.length≤400
 nout:l.outs.length≤16
 outs:∀n∈l.outs,0≤n∧n<(l.count:Int)
 seqs:∀i:Nat,i<l.seqs.length→((l.seqs[i]?.getD Sq.zero).kind=0∧(0≤(l.seqs[i]?.getD Sq.zero).init∧(l.seqs[i]?.getD Sq.zero).init≤1)∧(l.seqs[i]?.getD Sq.zero).ins.length=1 ∨
  (l.seqs[i]?.getD Sq.zero).kind=1∧(0≤(l.seqs[i]?.getD Sq.zero).init∧(l.seqs[i]?.getD Sq.zero).init≤31)∧(l.seqs[i]?.getD Sq.zero).ins.length=4)∧∀n∈(l.seqs[i]?.getD Sq.zero).ins,0≤n∧n<(l.count:Int)
 luts:∀i:Nat,i<l.luts.length→(l.luts[i]?.getD Lt.zero).ins.length≤4∧(0≤(l.luts[i]?.getD Lt.zero).mask∧(l.luts[i]?.getD Lt.zero).mask<2 ^ 2 ^ (l.luts[i]?.getD Lt.zero).ins.length)∧∀n∈(l.luts[i]?.getD Lt.zero).ins,0≤n∧n<(l.first:Int)+(i:Int)
/-- A state that fits a network. -/
structure StFit (l:LNet) (st:List Int):Prop where
 len:st.length=l.seqs.length
 fit:∀i:Nat,i<l.seqs.length→0≤st[i]?.getD 0∧st[i]?.getD 0≤if (l.seqs[i]?.getD Sq.zero).kind=1 then 31 else 1
theorem stFit_start {l:LNet} (h:NetFit l):StFit l (lnStart l):=⟨by simp [lnStart],fun i hi=>by
 have h1:=(h.seqs i hi).1
 have e:(lnStart l)[i]?.getD 0=(l.seqs[i]?.getD Sq.zero).init:=by unfold lnStart;rw [List.getElem?_map,List.getElem?_eq_getElem hi];rfl
 rw [e]
 rcases h1 with ⟨hk,hi,_⟩|⟨hk,hi,_⟩
 ·rw [hk,if_neg (by decide)];exact hi
 ·rw [hk,if_pos rfl];exact hi⟩
theorem stFit_next {l:LNet} (h:NetFit l) {st:List Int} (hs:StFit l st) (x:Int):StFit l (lnNext l st x):=⟨by simp [lnNext],fun i hi=>by
 have e:(lnNext l st x)[i]?.getD 0=lnNx l st (lnVals l st x) i:=by unfold lnNext;rw [List.getElem?_map,List.getElem?_range hi];rfl
 have h1:=(h.seqs i hi).1
 have h2:=hs.fit i hi
 rw [e,lnNx,sqNx]
 rcases h1 with ⟨hk,_,hl⟩|⟨hk,_,hl⟩
 ·rw [hk,if_neg (by decide),if_neg (by decide)];omega
 ·rw [hk,if_pos rfl] at h2
  rw [hk,if_pos rfl,if_pos rfl]
  have h3:=pkTo_lt (in2_to l st x l.luts.length) (l.seqs[i]?.getD Sq.zero).ins (l.seqs[i]?.getD Sq.zero).ins.length
  rw [hl] at h3
  have h4:pk (lnVals l st x) (l.seqs[i]?.getD Sq.zero).ins<16:=by unfold pk lnVals;rw [hl];exact h3
  have:=ramNext_le (st[i]?.getD 0).toNat (pk (lnVals l st x) (l.seqs[i]?.getD Sq.zero).ins) (by omega) (by omega)
  omega⟩
theorem stFit_at {l:LNet} (h:NetFit l) (xs:List Int) (k:Nat):StFit l (lnSt l xs k):=by
 induction k with
 | zero=>exact stFit_start h
 | succ k ih=>exact stFit_next h ih _
end Go.Proofs.YtignkfhdkcgkgaaGreat

namespace Go.Proofs.YtignkfhdkcgkgaaGreat
set_option maxRecDepth 100000
open Go.RowKit Cw

theorem le_fit {d:Dev} {ts:List Tile} {t e:Int} (hc:CfgOk d ts) (ht:tileIn d t=true) (he:0≤e∧e≤1):LeFit (leAt ts t e)∧(tileAt ts t).les.length=2∧t.toNat<ts.length∧TileFit d (tileAt ts t):=by
 obtain ⟨hd,h0,h1⟩:=tileIn_iff.1 ht
 have hN:=(tiles_eq hd).1
 have hlt:t.toNat<ts.length:=by rw [hc.len];omega
 have hf:=tileOk_iff (hc.fit _ hlt)
 obtain ⟨e0,e1,hle,ho0,ho1⟩:=hf.les
 change (tileAt ts t).les=[e0,e1] at hle
 refine ⟨?_,by rw [hle];rfl,hlt,hf⟩
 unfold leAt
 rw [hle]
 have:e=0∨e=1:=by omega
 rcases this with rfl|rfl
 ·exact leOk_iff ho0
 ·exact leOk_iff ho1
theorem sel_fit {e:Le} (h:LeFit e):e.sel.length=4∧∀j,j<4→0≤e.sel[j]?.getD 0∧e.sel[j]?.getD 0≤7:=by
 obtain ⟨a,b,c,d,hs,ha,hb,hc,hd⟩:=h.sel
 rw [hs]
 refine ⟨rfl,fun j hj=>?_⟩
 have:j=0∨j=1∨j=2∨j=3:=by omega
 rcases this with rfl|rfl|rfl|rfl <;> simp <;> omega
theorem selV_at {d:Dev} {vs:List Int} {t s:Int} (h:s>0):selV d vs t s=nv vs (t * perT d+s - 1):=by unfold selV;rw [if_pos h]
theorem selV_zero {d:Dev} {vs:List Int} {t s:Int} (h:¬s>0):selV d vs t s=0:=by unfold selV;rw [if_neg h]
theorem node_bd {d:Dev} {t k:Int} (ht:tileIn d t=true) (_h0:0≤k) (h1:k<perT d):0≤t * perT d∧t * perT d≤805∧t * perT d+k<nodesOf d:=by
 obtain ⟨hd,t0,t1⟩:=tileIn_iff.1 ht
 have hp:=perT_bd hd
 have hWH:=dev_WH hd
 have a:=mul_bd t0 (show t≤35 by omega) (show 0≤perT d by omega) hp.2
 have h2:(t+1) * perT d≤d.W * d.H * perT d:=Int.mul_le_mul_of_nonneg_right (by omega) (by omega)
 rw [Int.add_mul,Int.one_mul] at h2
 unfold nodesOf
 omega

set_option maxHeartbeats 4000000 in
theorem lut_any (g:Nat) (d:Dev) (ts:List Tile) (TA:Option Addr) (m tc:Nat) (EA DA:Option Addr) (N:Nat) (VA:Option Addr) (vc:Nat) (vs:List Int) (t e:Int) (w:World) (hem:EmuAt w g d ts TA m tc EA DA N) (hv:Ints w VA N vs) (h3:In3 vs) (hN:(N:Int)=nodesOf d) (hc:CfgOk d ts) (ht:tileIn d t=true) (he:0≤e∧e≤1) :
  Calls Tryz.prog 202 #[.pointer (some ⟨g,0,none⟩),.slice VA N vc,.int .i64 t,.int .i64 e] w fun e' w'=>e' = .returned (.int .i64 (lutF d vs t (leAt ts t e)))∧Below w.heap.size w w':=by
 obtain ⟨hlf,hl2,htl,hf⟩:=le_fit hc ht he
 obtain ⟨hsl,hsin⟩:=sel_fit hlf
 obtain ⟨hd,t0,t1⟩:=tileIn_iff.1 ht
 have hWH:=dev_WH hd
 have hT:=devOk_bd hd
 have hp:=perT_bd hd
 have hnb:=nodesOf_bd hd
 have hmk:=hlf.mask
 obtain ⟨b,o,S,m3,p,L,l,q,rfl,hb,ca,cl,-,-,-,rl⟩:=hem.tiles.tile htl
 change RdC w w.heap.size (celE (tileAt ts t).les) (.slice L l q) at rl
 have hll:=rl.elen
 obtain ⟨bl,ol,S4,m4,p4,rfl,hbl,d0,d1,d2,d3,r4⟩:=rl.le (k:=e.toNat) (by omega)
 change w.cell? ⟨bl,ol+e.toNat * 4+1,none⟩=some (.int .i64 (leAt ts t e).mask) at d1
 change w.cell? ⟨bl,ol+e.toNat * 4+2,none⟩=some (.int .i64 (leAt ts t e).flop) at d2
 change w.cell? ⟨bl,ol+e.toNat * 4+3,none⟩=some (.int .i64 (leAt ts t e).init) at d3
 change RdC w w.heap.size (celI (leAt ts t e).sel) (.slice S4 m4 p4) at r4
 have hS:=RdC.ints r4
 have htt:=hem.tiles.tlen
 have x4:=cell_heap (k:=4) hem.box rfl
 have x0:=cell_heap (k:=0) hem.box rfl
 have x1:=cell_heap (k:=1) hem.box rfl
 have x2:=cell_heap (k:=2) hem.box rfl
 have x3:=cell_heap (k:=3) hem.box rfl
 have hgl:=heap_lt0 hem.box
 have hm4:m4=4:=by rw [←hS.1];exact hsl
 subst hm4
 have hl:l=2:=by rw [←hll];exact hl2
 subst hl
 have HLT:=Lib.hid (idxTo_lt (d:=d) h3 t (leAt ts t e).sel)
 have HIN:=Lib.hid (fun s=>selV_in (d:=d) h3 t s)
 have HLF:Hid (lutF d vs t (leAt ts t e)=if negTo d vs t (leAt ts t e).sel 4=true then -1 else ((bit (leAt ts t e).mask.toNat (idxTo d vs t (leAt ts t e).sel 4):Nat):Int)):=rfl
 have HSI:=Lib.hid hsin
 have HV:=Lib.hid hv
 have HS:=Lib.hid hS
 have HT:=Lib.hid ht
 have HX:=Lib.hid (And.intro x0 (And.intro x1 (And.intro x2 x3)))
 have HNE:=Lib.hid hN
 obtain ⟨tn,rfl⟩:=Int.eq_ofNat_of_zero_le t0
 obtain ⟨en,rfl⟩:=Int.eq_ofNat_of_zero_le he.1
 rw [Int.toNat_natCast] at ca cl htl d0 d1 d2 d3
 have i0:(0:Int)≤(tn:Int):=t0
 have i1:(tn:Int)<(m:Int):=by omega
 have j0:(0:Int)≤(en:Int):=he.1
 have j1:(en:Int)<2:=by omega
 clear hem h3 hc ht hd hf hlf hsin rl r4 hN ca x0 x1 x2 x3 hv hS hsl hll htt hl2
 generalize leAt ts (tn:Int) (en:Int)=le at *
 generalize hmm:le.mask=mk at *
 obtain ⟨mk,rfl⟩:=Int.eq_ofNat_of_zero_le hmk.1
 have HMM:=Lib.hid hmm
 clear hmm
 go_enter Tryz.func202,Tryz.ntmps202
 go_wp2_with fail
 obtain ⟨bs,os,rfl,hbs,hcs⟩:=HS.out.2 (by omega)
 clear cl d0 d1 d2 d3 x4
 go_loopw [10,28] (fun v i wr=>∃j:Nat,j≤4∧i = .int .i64 j∧v = .int .i64 ((idxTo d vs (tn:Int) le.sel j:Nat):Int)∧negTo d vs (tn:Int) le.sel j=false∧Below (w.alloc (.cells #[.slice (some ⟨bs,os,none⟩) 4 p4,.int .i64 (mk:Int),.int .i64 le.flop,.int .i64 le.init] 107)).heap.size (w.alloc (.cells #[.slice (some ⟨bs,os,none⟩) 4 p4,.int .i64 (mk:Int),.int .i64 le.flop,.int .i64 le.init] 107)) wr) (fun _ i _=>4 - (intOf i).toNat)
 case atStart=>exact ⟨0,by omega,rfl,rfl,rfl,Below.refl _ _⟩
 case round =>
  obtain ⟨j,hj,rfl,rfl,hneg,hb⟩:=hrel
  have HNG:=Lib.hid hneg
  have HB:=Lib.hid hb
  have hs:=hb.size
  simp only [World.size_alloc] at hs
  clear hneg
  by_cases hlt:j<4
  ·have hdj:decide ((j:Int)<4)=true:=by simp;omega
   have hck:=hcs j hlt
   have hbw:Below w.heap.size w wr:=below_tr (below_new (Below.refl _ _) _) hb
   rw [←hbw.cell (p:=⟨bs,os+j,none⟩) hbs] at hck
   have hbsr:bs<wr.heap.size:=by omega
   have hsj:=HSI.out j hlt
   have HNS:Hid (negTo d vs (tn:Int) le.sel (j+1)=(negTo d vs (tn:Int) le.sel j || decide (selV d vs (tn:Int) (le.sel[j]?.getD 0)<0))):=rfl
   have HIS:Hid (idxTo d vs (tn:Int) le.sel (j+1)=idxTo d vs (tn:Int) le.sel j+(selV d vs (tn:Int) (le.sel[j]?.getD 0)).toNat * 2 ^ j):=rfl
   have hvj:=HIN.out (le.sel[j]?.getD 0)
   have hidx:=HLT.out j
   have HSA:=Lib.hid (fun h=>selV_at (d:=d) (vs:=vs) (t:=(tn:Int)) (s:=le.sel[j]?.getD 0) h)
   have HSZ:=Lib.hid (fun h=>selV_zero (d:=d) (vs:=vs) (t:=(tn:Int)) (s:=le.sel[j]?.getD 0) h)
   have HMO:=Lib.hid (fun h=>negTo_mono (d:=d) (vs:=vs) (t:=(tn:Int)) (sel:=le.sel) (j:=j+1) (k:=4) (by omega) h)
   have HBW:=Lib.hid hbw
   have j0':(0:Int)≤(j:Int):=by omega
   have j1':(j:Int)<4:=by omega
   generalize le.sel[j]?.getD 0=s at *
   generalize hsv:selV d vs (tn:Int) s=v at *
   generalize idxTo d vs (tn:Int) le.sel j=idx at *
   have HIDX:=Lib.hid hidx
   clear hb hbw hidx hsv
   by_cases hs0:s>0
   ·have hds:decide (s>0)=true:=by simpa using hs0
    obtain ⟨q0,q1,q2,q3⟩:=HX.out
    obtain ⟨hcc,hff⟩:=bcell HBW.out
    have hM:=node_bd HT.out (k:=s - 1) (by omega) (by omega)
    have hvs:=HSA.out hs0
    obtain ⟨bv,ov,rfl,hbv,hcv⟩:=HV.out.2 (by have:=HNE.out;omega)
    have hcx:=hcv ((tn:Int) * perT d+s - 1).toNat (by have:=HNE.out;omega)
    change w.cell? ⟨bv,ov+((tn:Int) * perT d+s - 1).toNat,none⟩=some (.int .i64 (nv vs ((tn:Int) * perT d+s - 1))) at hcx
    rw [←hvs,show ((tn:Int) * perT d+s - 1).toNat=((tn:Int) * perT d+s).toNat - 1 by omega] at hcx
    have HVS:=Lib.hid hvs
    have hgw:g<wr.heap.size:=by omega
    have k0:(0:Int)≤(tn:Int) * perT d+s - 1:=by omega
    have k1:(tn:Int) * perT d+s - 1<(N:Int):=by have:=HNE.out;omega
    clear hcv hvs
    go_wp2_with fail
    refine (perTile_any d _ (by omega) (by omega)).mono ?_
    rintro e w5 ⟨rfl,b5⟩
    have HB5:=Lib.hid (below_tr HB.out b5)
    have hs5:=b5.size
    have hbwv:=below_tr HBW.out b5
    have hbv5:=below_lt hbwv hbv
    obtain ⟨hcc5,hff5⟩:=bcell hbwv
    clear b5 hcc hff hck
    by_cases hv0:v<0
    ·have hdv:decide (v<0)=true:=by simpa using hv0
     have HE:Hid (lutF d vs (tn:Int) le=-1):=by show _=_;rw [HLF.out,if_pos (HMO.out (by rw [HNS.out,hdv];simp))]
     go_wp2_with fail
     go_ret
     exact ⟨ret_int HE.out.symm,below_tr (below_new (Below.refl _ _) _) HB5.out⟩
    ·have hdv:decide (v<0)=false:=by simp;omega
     obtain ⟨vn,rfl⟩:=Int.eq_ofNat_of_zero_le (show 0≤v by omega)
     have hv1:vn≤1:=by omega
     go_wp2_with fail
     go_roundw
     case rel=>exact ⟨j+1,by omega,by go_num,by rw [or_bit HIDX.out hv1 (by omega),HIS.out,Int.toNat_natCast],by rw [HNS.out,HNG.out,hdv];rfl,HB5.out⟩
     case measure=>simp [intOf];omega
   ·have hds:decide (s>0)=false:=by simp;omega
    have hvz:=HSZ.out hs0
    subst hvz
    have HB5:=HB
    clear hs0 HSA
    go_wp2_with fail
    go_roundw
    case rel=>exact ⟨j+1,by omega,by go_num,by have hp2:2 ^ j≤2 ^ 4:=Nat.pow_le_pow_right (by omega) (by omega);have hi:=HIDX.out;have ho:bits BinOp.or IntKind.i64 (idx:Int) 0=((idx ||| 0:Nat):Int):=i64_or_nat idx 0 (by omega) (by omega);rw [ho,Nat.or_zero,HIS.out];simp,by rw [HNS.out,HNG.out];rfl,HB5.out⟩
    case measure=>simp [intOf];omega
  ·have hj4:j=4:=by omega
   have HJ4:=Lib.hid hj4
   have hidx:=HLT.out 4
   have HE:Hid (lutF d vs (tn:Int) le=((bit mk (idxTo d vs (tn:Int) le.sel 4):Nat):Int)):=by
    have h:=HNG.out
    rw [HJ4.out] at h
    show _=_
    rw [HLF.out,h]
    rfl
   subst hj4
   generalize idxTo d vs (tn:Int) le.sel 4=idx at *
   have hdj:decide (((4:Nat):Int)<4)=false:=by decide
   have hi16:idx<16:=by simpa using hidx
   obtain ⟨hcc,hff⟩:=bcell hb
   go_wp2_with fail
   go_ret
   exact ⟨ret_int (by rw [HE.out];first|exact shr_bit mk idx (by omega)|rfl),below_tr (below_new (Below.refl _ _) _) HB.out⟩

theorem and1 {x:Int} (h0:0≤x) (h1:x≤31):bits .and .i64 x 1=x % 2:=by
 obtain ⟨n,rfl⟩:=Int.eq_ofNat_of_zero_le h0
 rw [and_one_nat n (by omega)]
 omega
set_option maxHeartbeats 4000000 in
theorem pin_any (g:Nat) (d:Dev) (ts:List Tile) (TA:Option Addr) (m tc:Nat) (EA DA:Option Addr) (N:Nat) (VA:Option Addr) (vc:Nat) (vs:List Int) (SA:Option Addr) (sn sc:Nat) (st:List Int) (PA:Option Addr) (pn pc:Nat) (pads:List Int) (t e:Int) (w:World)
  (hem:EmuAt w g d ts TA m tc EA DA N) (hv:Ints w VA N vs) (h3:In3 vs) (hN:(N:Int)=nodesOf d) (hst:Ints w SA sn st) (hpa:Ints w PA pn pads) (hsn:(sn:Int)=2 * (d.W * d.H)) (hpn:(pn:Int)=d.W * d.H) (hsp:StPads d ts st pads) (hc:CfgOk d ts) (ht:tileIn d t=true) (he:0≤e∧e≤1) :
  Calls Tryz.prog 229 #[.pointer (some ⟨g,0,none⟩),.slice VA N vc,.slice SA sn sc,.slice PA pn pc,.int .i64 t,.int .i64 e] w fun e' w'=>e' = .returned (.int .i64 (pinF d ts st pads vs t e))∧Below w.heap.size w w':=by
 obtain ⟨hlf,hl2,htl,hf⟩:=le_fit hc ht he
 obtain ⟨hd,t0,t1⟩:=tileIn_iff.1 ht
 have hWH:=dev_WH hd
 have hT:=devOk_bd hd
 obtain ⟨b,o,S,m3,p,L,l,q,rfl,hb,ca,cl,cp,cr,-,rl⟩:=hem.tiles.tile htl
 change w.cell? ⟨b,o+t.toNat * 4+2,none⟩=some (.int .i64 (tileAt ts t).pad) at cp
 change w.cell? ⟨b,o+t.toNat * 4+3,none⟩=some (.int .i64 (tileAt ts t).ram) at cr
 change RdC w w.heap.size (celE (tileAt ts t).les) (.slice L l q) at rl
 have hll:=rl.elen
 obtain ⟨bl,ol,S4,m4,p4,rfl,hbl,d0,d1,d2,d3,r4⟩:=rl.le (k:=e.toNat) (by omega)
 change w.cell? ⟨bl,ol+e.toNat * 4+2,none⟩=some (.int .i64 (leAt ts t e).flop) at d2
 have htt:=hem.tiles.tlen
 have x4:=cell_heap (k:=4) hem.box rfl
 have hgl:=heap_lt0 hem.box
 have hl:l=2:=by rw [←hll];exact hl2
 subst hl
 obtain ⟨bs,os,rfl,hbs,hcs⟩:=hst.2 (by omega)
 obtain ⟨bp,op,rfl,hbp,hcp⟩:=hpa.2 (by omega)
 have HPF:Hid (pinF d ts st pads vs t e=if kindOf d t=0 then (if (tileAt ts t).pad=1 then nv pads t else 0) else if kindOf d t=2 then nv st (2 * t) % 2 else if (leAt ts t e).flop=1 then nv st (2 * t+e) else lutF d vs t (leAt ts t e)):=rfl
 have hpad:=hcp t.toNat (by omega)
 change w.cell? ⟨bp,op+t.toNat,none⟩=some (.int .i64 (nv pads t)) at hpad
 have hs0:=hcs (2 * t).toNat (by omega)
 change w.cell? ⟨bs,os+(2 * t).toNat,none⟩=some (.int .i64 (nv st (2 * t))) at hs0
 have hs1:=hcs (2 * t+e).toNat (by omega)
 change w.cell? ⟨bs,os+(2 * t+e).toNat,none⟩=some (.int .i64 (nv st (2 * t+e))) at hs1
 have HRAM:=Lib.hid (fun h=>hsp.ram t ht h)
 have HLUT:=Lib.hid (fun w' (hb:Below w.heap.size w w')=>lut_any g d ts (some ⟨b,o,none⟩) m tc EA DA N VA vc vs t e w' (hem.below hb) (hv.below hb) h3 hN hc ht he)
 have HTK:=Lib.hid (fun w'=>tileKind_any d t w' hd t0 (by omega))
 have HX:=Lib.hid (And.intro (cell_heap (k:=0) hem.box rfl) (And.intro (cell_heap (k:=1) hem.box rfl) (And.intro (cell_heap (k:=2) hem.box rfl) (cell_heap (k:=3) hem.box rfl))))
 obtain ⟨x0,x1,x2,x3⟩:=HX.out
 obtain ⟨tn,rfl⟩:=Int.eq_ofNat_of_zero_le t0
 obtain ⟨en,rfl⟩:=Int.eq_ofNat_of_zero_le he.1
 rw [show (2 * (tn:Int)).toNat=2 * tn by omega] at hs0
 rw [show (2 * (tn:Int)+(en:Int)).toNat=2 * tn+en by omega] at hs1
 rw [Int.toNat_natCast] at ca cl cp cr htl hpad d0 d1 d2 d3
 have i0:(0:Int)≤(tn:Int):=t0
 have i1:(tn:Int)<(m:Int):=by omega
 have i2:(tn:Int)<(pn:Int):=by omega
 have i3:2 * (tn:Int)<(sn:Int):=by omega
 have i4:2 * (tn:Int)+(en:Int)<(sn:Int):=by omega
 have j0:(0:Int)≤(en:Int):=he.1
 have j1:(en:Int)<2:=by omega
 have hb0:=below_new (Below.refl w.heap.size w) (.cells #[.slice S m3 p,.slice (some ⟨bl,ol,none⟩) 2 q,.int .i64 (tileAt ts (tn:Int)).pad,.int .i64 (tileAt ts (tn:Int)).ram] 103)
 have HB0:=Lib.hid hb0
 clear hem hv h3 hN hst hpa hsp hc ht hd hf hlf hcs hcp rl r4 htt hll hl2 d0 d1 d3 hb0 htl
 have hk3:=kindOf_bd d (tn:Int)
 generalize kindOf d (tn:Int)=K at *
 generalize tileAt ts (tn:Int)=tl at *
 generalize leAt ts (tn:Int) (en:Int)=le at *
 generalize lutF d vs (tn:Int) le=lv at *
 generalize nv pads (tn:Int)=vp at *
 generalize nv st (2 * (tn:Int))=v0 at *
 generalize nv st (2 * (tn:Int)+(en:Int))=v1 at *
 go_enter Tryz.func229,Tryz.ntmps229
 go_wp2_with fail
 refine (HTK.out _).mono ?_
 rintro e' w1 ⟨rfl,b1⟩
 have HB1:=Lib.hid (below_tr HB0.out b1)
 have hs1':=b1.size
 simp only [World.size_alloc] at hs1'
 have hbw:=below_tr HB0.out b1
 have y2:=(b1.cell (p:=⟨w.heap.size,2,none⟩) (by simp)).trans (cell_heap (k:=2) (heap_new w _) rfl)
 have y1:=(b1.cell (p:=⟨w.heap.size,1,none⟩) (by simp)).trans (cell_heap (k:=1) (heap_new w _) rfl)
 obtain ⟨hcc,hff⟩:=bcell hbw
 clear b1 hbw
 have k1:=below_lt HB1.out hbs
 have k2:=below_lt HB1.out hbp
 have k3:=below_lt HB1.out hbl
 rcases hk3 with rfl|rfl|rfl
 ·by_cases hp1:tl.pad=1
  ·have q1:(tl.pad==1)=true:=by simpa using hp1
   have HE:Hid (pinF d ts st pads vs (tn:Int) (en:Int)=vp):=by show _=_;rw [HPF.out,if_pos rfl,if_pos hp1]
   clear hp1
   go_wp2_with fail
   go_ret
   exact ⟨ret_int HE.out.symm,HB1.out⟩
  ·have q1:(tl.pad==1)=false:=by simpa using hp1
   have HE:Hid (pinF d ts st pads vs (tn:Int) (en:Int)=0):=by show _=_;rw [HPF.out,if_pos rfl,if_neg hp1]
   clear hp1
   go_wp2_with fail
   go_ret
   exact ⟨ret_int HE.out.symm,HB1.out⟩
 ·by_cases hp1:le.flop=1
  ·have q1:(le.flop==1)=true:=by simpa using hp1
   have HE:Hid (pinF d ts st pads vs (tn:Int) (en:Int)=v1):=by show _=_;rw [HPF.out,if_neg (by omega),if_neg (by omega),if_pos hp1]
   clear hp1
   go_wp2_with fail
   go_ret
   exact ⟨ret_int HE.out.symm,HB1.out⟩
  ·have q1:(le.flop==1)=false:=by simpa using hp1
   have HE:Hid (pinF d ts st pads vs (tn:Int) (en:Int)=lv):=by show _=_;rw [HPF.out,if_neg (by omega),if_neg (by omega),if_neg hp1]
   clear hp1
   go_wp2_with fail
   refine (HLUT.out _ HB1.out).mono ?_
   rintro e' w2 ⟨rfl,b2⟩
   have HB2:=Lib.hid (below_tr HB1.out b2)
   clear b2 hcc hff
   go_wp2_with fail
   go_ret
   exact ⟨ret_int HE.out.symm,HB2.out⟩
 ·have hr:=HRAM.out rfl
  have HE:Hid (pinF d ts st pads vs (tn:Int) (en:Int)=v0 % 2):=by show _=_;rw [HPF.out,if_neg (by omega),if_pos rfl]
  go_wp2_with fail
  go_ret
  exact ⟨ret_int (by rw [HE.out];first|exact and1 hr.1 hr.2|rfl),HB1.out⟩
end Go.Proofs.YtignkfhdkcgkgaaGreat
