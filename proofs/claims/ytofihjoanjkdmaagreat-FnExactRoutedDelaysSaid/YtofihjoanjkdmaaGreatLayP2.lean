/- Blocks, their pins and the connections between them, in plain terms. -/
import Derived.Test.YtofihjoanjkdmaaGreatLnB
import Derived.Test.YtofihjoanjkdmaaGreatRtPure
namespace Go.Proofs.YtofihjoanjkdmaaGreat
set_option maxRecDepth 100000
open Go.RowKit
structure LeT where
 lut:Int
 ff:Int
structure Blk where
 kind:Int
 item:Int
 les:List LeT
structure ah where
 block:Int
 pin:Int
structure Cn where
 node:Int
 src:ah
 sinks:List ah
structure Rou where
 nodes:List Int
 from_:List Int
def LeT.zero:LeT:=⟨0,0⟩
def Blk.zero:Blk:=⟨0,0,[]⟩
def ah.zero:ah:=⟨0,0⟩
def Cn.zero:Cn:=⟨0,ah.zero,[]⟩
def Rou.zero:Rou:=⟨[],[]⟩
def ai.lut (l:ai) (k:Int):Lt:=l.luts[k.toNat]?.getD Lt.zero
def ai.sq (l:ai) (k:Int):Sq:=l.seqs[k.toNat]?.getD Sq.zero
/-! ### how often a node is used -/
def cnt (xs:List Int) (n:Int):Nat:=xs.countP fun x=>decide (x=n)
def AY (l:ai) (n:Int):Nat:=cnt (l.luts.flatMap Lt.ins) n+cnt (l.seqs.flatMap Sq.ins) n+cnt l.outs n
def aH (m:Nat) (xs:List Int):List Int:=(List.range m).map fun (k:Nat)=>((cnt xs (k:Int):Nat):Int)
theorem lT (m:Nat) (xs:List Int):(aH m xs).length=m:=by simp [aH]
theorem jb {m k:Nat} (xs:List Int) (h:k<m):(aH m xs)[k]?.getD 0=((cnt xs (k:Int):Nat):Int):=by
 unfold aH
 rw [List.getElem?_map,List.getElem?_range h]
 rfl
theorem pW (m:Nat):aH m []=List.replicate m 0:=by
 apply List.ext_getElem
 ·simp [aH]
 intro i _ _
 simp [aH,cnt]
theorem Dx (xs:List Int) (x n:Int):cnt (xs++[x]) n=cnt xs n+if x=n then 1 else 0:=by
 unfold cnt
 rw [List.countP_append]
 by_cases h:x=n <;> simp [h]
theorem vF (xs ys:List Int) (n:Int):cnt (xs++ys) n=cnt xs n+cnt ys n:=by
 unfold cnt
 rw [List.countP_append]
theorem fC (xs:List Int) (n:Int):cnt xs n<=xs.length:=List.countP_le_length
theorem tu {m:Nat} (xs:List Int) {x:Int} (h0:0<=x):(aH m xs).set x.toNat (((cnt xs x:Nat):Int)+1)=aH m (xs++[x]):=by
 apply List.ext_getElem
 ·simp [aH]
 intro i hi _
 have g:i<m:=by simpa [aH] using hi
 rw [List.getElem_set]
 simp only [aH,List.getElem_map,List.getElem_range]
 rw [Dx]
 split
 ·rename_i e
  have e':x=(i:Int):=by omega
  rw [if_pos e',←e']
  omega
 rename_i e
 rw [if_neg (by omega)]
 omega
theorem Eo (l:ai) (n:Int):AY l n=cnt (l.luts.flatMap Lt.ins++l.seqs.flatMap Sq.ins++l.outs) n:=by
 unfold AY
 rw [vF,vF]
/-! ### logic elements -/
structure dQ (l:ai) (e:LeT):Prop where
 lut:-1<=e.lut/\e.lut<(l.luts.length:Int)
 ff:-1<=e.ff/\e.ff<(l.seqs.length:Int)
 one:¬(e.lut=-1/\e.ff=-1)
 flop:0<=e.ff→(l.sq e.ff).kind=0
 both:0<=e.lut→0<=e.ff→(l.sq e.ff).ins[0]?.getD 0=(l.first:Int)+e.lut/\AY l ((l.first:Int)+e.lut)=1
def qF (l:ai) (e:LeT):List Int:=if 0<=e.lut then (l.lut e.lut).ins else (l.sq e.ff).ins
def iB (l:ai) (e:LeT):List Int:=asc ((qF l e).filter fun x=>decide (x≠0))
def cZ (l:ai) (e:LeT):Int:=if 0<=e.ff then 1+l.inputs+e.ff else (l.first:Int)+e.lut
/-! ### pins of blocks -/
def FN (xs ys:List Int):List Int:=asc (xs.filter fun x=>decide (x∉ys))
def fE (l:ai) (es:List LeT):List Int:=FN (es.flatMap (iB l)) (es.map (cZ l))
def FD (l:ai) (es:List LeT):List Int:=es.map (cZ l)
def iy (l:ai) (b:Blk):List Int:=if b.kind=0 then [] else if b.kind=1 then [l.outs[b.item.toNat]?.getD 0] else if b.kind=2 then (l.sq b.item).ins else fE l b.les
def jy (l:ai) (b:Blk):List Int:=if b.kind=0 then [1+b.item] else if b.kind=1 then [] else if b.kind=2 then [1+l.inputs+b.item] else FD l b.les
def dY (l:ai) (b:Blk):Prop:=b.kind=0/\(0<=b.item/\b.item<l.inputs)∨b.kind=1/\(0<=b.item/\b.item<(l.outs.length:Int))∨b.kind=2/\(0<=b.item/\b.item<(l.seqs.length:Int)) ∨
 b.kind=3/\∀e∈b.les,dQ l e
def dI (l:ai) (b:Blk):Prop:=dY l b/\(b.kind=3/\b.item=0/\(1<=b.les.length/\b.les.length<=2)/\(fE l b.les).length<=5∨b.kind≠3/\b.les=[]/\(b.kind=2→(l.sq b.item).kind=1))
/-! ### each part once -/
def bC (k:Int) (bs:List Blk):List Int:=bs.flatMap fun b=>if b.kind=k then [b.item] else []
def eZ (bs:List Blk):List Int:=bs.flatMap fun b=>b.les.flatMap fun e=>if 0<=e.lut then [e.lut] else []
def dw (bs:List Blk):List Int:=bs.flatMap fun b=>(if b.kind=2 then [b.item] else [])++b.les.flatMap fun e=>if 0<=e.ff then [e.ff] else []
def sI (m:Nat) (xs:List Int):Prop:=∀k:Nat,k<m→cnt xs (k:Int)=1
structure fQ (l:ai) (bs:List Blk):Prop where
 net:bA l
 len:bs.length<=64
 fit:∀b∈bs,dI l b
 ins:sI l.inputs.toNat (bC 0 bs)
 outs:sI l.outs.length (bC 1 bs)
 seqs:sI l.seqs.length (dw bs)
 luts:sI l.luts.length (eZ bs)
/-! ### connections -/
def nQ (n:Int) (j:Nat) (g:List Int) (q:Nat):List ah:=(List.range q).flatMap fun (k:Nat)=>if g[k]?.getD 0=n then [⟨(j:Int),(k:Int)⟩] else []
def gV (g:List (List Int)) (n:Int) (j:Nat):List ah:=(List.range j).flatMap fun (i:Nat)=>nQ n i (g[i]?.getD []) (g[i]?.getD []).length
def vG (g:List (List Int)) (i p:Nat) (n:Int):List Cn:=if (gV g n g.length).length=0 then [] else [⟨n,⟨(i:Int),(p:Int)⟩,gV g n g.length⟩]
def iK (g:List (List Int)) (i:Nat) (os:List Int) (p:Nat):List Cn:=(List.range p).flatMap fun (k:Nat)=>vG g i k (os[k]?.getD 0)
def kr (l:ai) (bs:List Blk) (i:Nat):List Cn:=(List.range i).flatMap fun (k:Nat)=>iK (bs.map (iy l)) k (jy l (bs[k]?.getD Blk.zero)) (jy l (bs[k]?.getD Blk.zero)).length
def eu (l:ai) (bs:List Blk):List Cn:=kr l bs bs.length
/-! ### placements -/
def gD (k:Int):Int:=if k=0∨k=1 then 0 else if k=2 then 2 else if k=3 then 1 else -1
/-! ### ascending lists: the reference's way -/
def wm (ys out:List Int) (x:Int):List Int:=if 0<x/\x∉ys/\out.getLast?≠some x then out++[x] else out
theorem AZ {ys xs out:List Int} {x:Int} (u:∀y∈xs,y<=x) (ho:Asc out) (q:∀y,y∈out↔y∈xs/\0<y/\y∉ys):Asc (wm ys out x)/\∀y,y∈wm ys out x↔y∈xs++[x]/\0<y/\y∉ys:=by
 unfold wm
 split
 ·rename_i h
  refine ⟨?_,fun y=>?_⟩
  ·unfold Asc at *
   rw [List.pairwise_append]
   refine ⟨ho,by simp,fun a j b D=>?_⟩
   obtain rfl:=List.mem_singleton.1 D
   have h1:=u a ((q a).1 j).1
   rcases Int.lt_or_eq_of_le h1 with h2|rfl
   ·exact h2
   exfalso
   have g:out≠[]:=List.ne_nil_of_mem j
   have hl:=List.getLast_mem g
   have h3:=u _ ((q _).1 hl).1
   obtain ⟨B,z,rfl⟩:∃B z,out=B++[z]:=⟨out.dropLast,out.getLast g,(List.dropLast_concat_getLast g).symm⟩
   have h3:z<=a:=u z ((q z).1 (by simp)).1
   have h4:a<=z:=by
    rw [List.pairwise_append] at ho
    rcases List.mem_append.1 j with j|j
    ·exact Int.le_of_lt (ho.2.2 a j z (by simp))
    rw [List.mem_singleton.1 j];exact Int.le_refl z
   exact h.2.2 (by rw [List.getLast?_concat,Int.le_antisymm h3 h4])
  rw [List.mem_append,q,List.mem_append,List.mem_singleton]
  constructor
  ·rintro (h1|rfl)
   ·exact ⟨.inl h1.1,h1.2⟩
   exact ⟨.inr rfl,h.1,h.2.1⟩
  rintro ⟨h1|rfl,h2⟩
  ·exact .inl ⟨h1,h2⟩
  exact .inr rfl
 rename_i h
 refine ⟨ho,fun y=>?_⟩
 rw [q,List.mem_append,List.mem_singleton]
 constructor
 ·rintro ⟨h1,h2⟩
  exact ⟨.inl h1,h2⟩
 rintro ⟨h1|rfl,h2⟩
 ·exact ⟨h1,h2⟩
 have hl:out.getLast?=some y:=by
  rcases Classical.em (out.getLast?=some y) with h3|h3
  ·exact h3
  exact absurd ⟨h2.1,h2.2,h3⟩ h
 exact (q y).1 (List.mem_of_getLast? hl)
theorem FO {xs out:List Int} (ho:Asc out) {P:Int→Prop} [DecidablePred P] (g:∀y,y∈out↔y∈xs/\P y):out=asc (xs.filter fun x=>decide (P x)) :=
 pg ho (uT _) fun y=>by rw [sO,g,List.mem_filter,decide_eq_true_iff]
/-! ### the reference's ascending lists -/
def nR (ys xs:List Int):Nat→List Int
 | 0=>[]
 | k+1=>wm ys (nR ys xs k) (xs[k]?.getD 0)
theorem bN {α:Type} {xs:List α} {k:Nat} {z:α} (h:k<xs.length):xs.take (k+1)=xs.take k++[xs[k]?.getD z]:=by
 rw [List.take_add_one,List.getElem?_eq_getElem h]
 rfl
theorem CY {ys xs:List Int} (hs:xs.Pairwise (·<=·)):∀{k:Nat},k<=xs.length→Asc (nR ys xs k)/\∀y,y∈nR ys xs k↔y∈xs.take k/\0<y/\y∉ys:=by
 intro k
 induction k with
 | zero=>intro _;exact ⟨by simp [nR,Asc],fun y=>by simp [nR]⟩
 | succ k ih =>
  intro hk
  obtain ⟨h1,h2⟩:=ih (by omega)
  rw [nR,bN (z:=0) (by omega)]
  refine AZ (fun y j=>?_) h1 h2
  have g:k<xs.length:=by omega
  rw [List.getElem?_eq_getElem g,Option.getD_some]
  obtain ⟨i,hi,rfl⟩:=List.getElem_of_mem j
  rw [List.length_take] at hi
  rw [List.getElem_take]
  exact List.pairwise_iff_getElem.1 hs i k (by omega) g (by omega)
theorem Aa {ys xs g:List Int} (hs:xs.Pairwise (·<=·)) (j:xs.Perm g):nR ys xs xs.length=asc (g.filter fun x=>decide (0<x/\x∉ys)):=by
 obtain ⟨h1,h2⟩:=CY (ys:=ys) hs (Nat.le_refl _)
 refine FO h1 fun y=>?_
 rw [h2,List.take_length,j.mem_iff]
theorem Ab {l:ai} {e:LeT} (h:∀x∈qF l e,0<=x):asc ((qF l e).filter fun x=>decide (0<x/\x∉([]:List Int)))=iB l e:=by
 unfold iB
 rw [show (qF l e).filter (fun x=>decide (0<x/\x∉([]:List Int)))=(qF l e).filter (fun x=>decide (x≠0)) from List.filter_congr fun x g=>by
  have:=h x g
  exact decide_eq_decide.2 ⟨fun h=>by omega,fun h=>⟨by omega,by simp⟩⟩]
theorem CZ {l:ai} {e:LeT} {x:Int}:x∈iB l e↔x∈qF l e/\x≠0:=by
 unfold iB
 rw [sO,List.mem_filter,decide_eq_true_iff]
/-! ### the program's ascending lists -/
theorem mD (p:Int→Bool) (xs:List Int) (x:Int):asc ((xs++[x]).filter p)=if p x=true then ins (asc (xs.filter p)) x else asc (xs.filter p):=by
 rw [List.filter_append]
 split
 ·rename_i h
  rw [List.filter_cons_of_pos h,List.filter_nil,pY]
 rename_i h
 rw [List.filter_cons_of_neg h,List.filter_nil,List.append_nil]
/-! ### placements -/
structure fA (d:Dev) (kinds place:List Int):Prop where
 dev:dZ d=true
 len:kinds.length<=64
 same:place.length=kinds.length
 tile:∀k:Nat,k<kinds.length→az d (place[k]?.getD 0)=true/\bH d (place[k]?.getD 0)=gD (kinds[k]?.getD 0)
 once:place.Nodup
/-! ### connections -/
def gI (n:Int) (p:ah):Prop:=(0<=p.block/\p.block<n)/\0<=p.pin/\p.pin<=4
structure oz (n:Int) (c:Cn):Prop where
 len:1<=c.sinks.length/\c.sinks.length<=120
 src:gI n c.src
 sinks:∀p∈c.sinks,gI n p
structure jF (n:Int) (cs:List Cn):Prop where
 blocks:0<=n/\n<=64
 len:cs.length<=100
 fit:∀c∈cs,oz n c
/-! ### routes -/
def nT (d:Dev) (t p:Int):Int:=if az d t=true/\0<=p/\p<jA (bH d t) then t * aQ d+p else -1
def fT (d:Dev) (place:List Int) (c:Cn):Int:=if 0<=c.src.block/\c.src.block<(place.length:Int) then ed d (place[c.src.block.toNat]?.getD 0) c.src.pin else -1
def bO (d:Dev) (place:List Int) (p:ah):Int:=if 0<=p.block/\p.block<(place.length:Int) then nT d (place[p.block.toNat]?.getD 0) p.pin else -1
def gW (d:Dev) (place:List Int) (c:Cn):Prop:=∀p∈c.sinks,0<=bO d place p
def bQ (d:Dev) (place:List Int) (c:Cn):List Int:=c.sinks.map (bO d place)
structure dB (d:Dev) (source:Int) (sinks:List Int) (r:Rou):Prop where
 len:1<=r.nodes.length/\(r.nodes.length:Int)<=iJ d
 dev:dZ d=true
 same:r.from_.length=r.nodes.length
 node:∀n∈r.nodes,bI d n=true
 once:r.nodes.Nodup
 root:r.nodes[0]?.getD 0=source/\r.from_[0]?.getD 0=0/\(source % aQ d=5∨source % aQ d=6)
 step:∀i:Nat,0<i→i<r.nodes.length→(0<=r.from_[i]?.getD 0/\r.from_[i]?.getD 0<(i:Int))/\r.nodes[(r.from_[i]?.getD 0).toNat]?.getD 0∈jT d (r.nodes[i]?.getD 0)
 pins:∀n∈r.nodes,n % aQ d<5→n∈sinks
 sinks:∀n∈sinks,n∈r.nodes
structure d9 (d:Dev) (place:List Int) (cs:List Cn) (rs:List Rou):Prop where
 conns:jF place.length cs
 len:rs.length=cs.length
 fit:∀i:Nat,i<cs.length→gW d place (cs[i]?.getD Cn.zero)/\dB d (fT d place (cs[i]?.getD Cn.zero)) (bQ d place (cs[i]?.getD Cn.zero)) (rs[i]?.getD Rou.zero)
 once:(rs.flatMap Rou.nodes).Nodup
/-! ### layouts -/
structure Lay where
 net:ai
 blocks:List Blk
 conns:List Cn
 place:List Int
 routes:List Rou
structure iQ (d:Dev) (x:Lay):Prop where
 pack:fQ x.net x.blocks
 conns:x.conns=eu x.net x.blocks
 place:fA d (x.blocks.map Blk.kind) x.place
 routes:d9 d x.place x.conns x.routes
/-! ### the steps of the loops -/
theorem dh {xs:List Int} {x:Int}:(xs++[x]).Nodup↔xs.Nodup/\x∉xs:=by
 rw [List.nodup_append]
 constructor
 ·rintro ⟨h1,_,h3⟩
  exact ⟨h1,fun q=>h3 x q x (by simp) rfl⟩
 rintro ⟨h1,h2⟩
 exact ⟨h1,by simp,fun a g b j e=>h2 (by rw [List.mem_singleton.1 j] at e;exact e ▸ g)⟩
theorem kE {α:Type} (f:Nat→List α) (k:Nat):(List.range (k+1)).flatMap f=(List.range k).flatMap f++f k:=by
 rw [List.range_succ,List.flatMap_append,List.flatMap_singleton]
theorem vH (n:Int) (j:Nat) (g:List Int) (q:Nat):nQ n j g (q+1)=nQ n j g q++if g[q]?.getD 0=n then [⟨(j:Int),(q:Int)⟩] else []:=by
 unfold nQ
 rw [kE]
theorem sJ (g:List (List Int)) (n:Int) (j:Nat):gV g n (j+1)=gV g n j++nQ n j (g[j]?.getD []) (g[j]?.getD []).length:=by
 unfold gV
 rw [kE]
theorem rJ (g:List (List Int)) (i:Nat) (os:List Int) (p:Nat):iK g i os (p+1)=iK g i os p++vG g i p (os[p]?.getD 0):=by
 unfold iK
 rw [kE]
theorem qP (l:ai) (bs:List Blk) (i:Nat):kr l bs (i+1)=kr l bs i++iK (bs.map (iy l)) i (jy l (bs[i]?.getD Blk.zero)) (jy l (bs[i]?.getD Blk.zero)).length:=by
 unfold kr
 rw [kE]
end Go.Proofs.YtofihjoanjkdmaaGreat
