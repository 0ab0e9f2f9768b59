/- Blocks, their pins and the connections between them, in plain terms. -/
import Derived.Test.YtofihjoanjkdmaaGreatLnB
import Derived.Test.YtofihjoanjkdmaaGreatRtPure
namespace Go.Proofs.YtofihjoanjkdmaaGreat
set_option maxRecDepth 100000
open Go.RowKit
structure LeT where
 lut:Int
 ff:Int
structure Blk where
 kind:Int
 item:Int
 les:List LeT
structure bS where
 block:Int
 pin:Int
structure Cn where
 node:Int
 src:bS
 sinks:List bS
structure Rou where
 nodes:List Int
 from_:List Int
def LeT.zero:LeT:=⟨0,0⟩
def Blk.zero:Blk:=⟨0,0,[]⟩
def bS.zero:bS:=⟨0,0⟩
def Cn.zero:Cn:=⟨0,bS.zero,[]⟩
def Rou.zero:Rou:=⟨[],[]⟩
def ag.lut (l:ag) (k:Int):Lt:=l.luts[k.toNat]?.getD Lt.zero
def ag.sq (l:ag) (k:Int):Sq:=l.seqs[k.toNat]?.getD Sq.zero
/-! ### how often a node is used -/
def cnt (xs:List Int) (n:Int):Nat:=xs.countP fun x=>decide (x=n)
def Ad (l:ag) (n:Int):Nat:=cnt (l.luts.flatMap Lt.ins) n+cnt (l.seqs.flatMap Sq.ins) n+cnt l.outs n
def aG (m:Nat) (xs:List Int):List Int:=(List.range m).map fun (k:Nat)=>((cnt xs (k:Int):Nat):Int)
theorem lv (m:Nat) (xs:List Int):(aG m xs).length=m:=by simp [aG]
theorem jb {m k:Nat} (xs:List Int) (h:k<m):(aG m xs)[k]?.getD 0=((cnt xs (k:Int):Nat):Int):=by
 unfold aG
 rw [List.getElem?_map,List.getElem?_range h]
 rfl
theorem pu (m:Nat):aG m []=List.replicate m 0:=by
 apply List.ext_getElem
 ·simp [aG]
 intro i _ _
 simp [aG,cnt]
theorem D8 (xs:List Int) (x n:Int):cnt (xs++[x]) n=cnt xs n+if x=n then 1 else 0:=by
 unfold cnt
 rw [List.countP_append]
 by_cases h:x=n <;> simp [h]
theorem uo (xs ys:List Int) (n:Int):cnt (xs++ys) n=cnt xs n+cnt ys n:=by
 unfold cnt
 rw [List.countP_append]
theorem fC (xs:List Int) (n:Int):cnt xs n<=xs.length:=List.countP_le_length
theorem tq {m:Nat} (xs:List Int) {x:Int} (h0:0<=x):(aG m xs).set x.toNat (((cnt xs x:Nat):Int)+1)=aG m (xs++[x]):=by
 apply List.ext_getElem
 ·simp [aG]
 intro i hi _
 have g:i<m:=by simpa [aG] using hi
 rw [List.getElem_set]
 simp only [aG,List.getElem_map,List.getElem_range]
 rw [D8]
 split
 ·rename_i e
  have e':x=(i:Int):=by omega
  rw [if_pos e',←e']
  omega
 rename_i e
 rw [if_neg (by omega)]
 omega
theorem Et (l:ag) (n:Int):Ad l n=cnt (l.luts.flatMap Lt.ins++l.seqs.flatMap Sq.ins++l.outs) n:=by
 unfold Ad
 rw [uo,uo]
/-! ### logic elements -/
structure dG (l:ag) (e:LeT):Prop where
 lut:-1<=e.lut/\e.lut<(l.luts.length:Int)
 ff:-1<=e.ff/\e.ff<(l.seqs.length:Int)
 one:¬(e.lut=-1/\e.ff=-1)
 flop:0<=e.ff→(l.sq e.ff).kind=0
 both:0<=e.lut→0<=e.ff→(l.sq e.ff).ins[0]?.getD 0=(l.first:Int)+e.lut/\Ad l ((l.first:Int)+e.lut)=1
def qL (l:ag) (e:LeT):List Int:=if 0<=e.lut then (l.lut e.lut).ins else (l.sq e.ff).ins
def iB (l:ag) (e:LeT):List Int:=asc ((qL l e).filter fun x=>decide (x≠0))
def dA (l:ag) (e:LeT):Int:=if 0<=e.ff then 1+l.inputs+e.ff else (l.first:Int)+e.lut
/-! ### pins of blocks -/
def FY (xs ys:List Int):List Int:=asc (xs.filter fun x=>decide (x∉ys))
def fD (l:ag) (es:List LeT):List Int:=FY (es.flatMap (iB l)) (es.map (dA l))
def FR (l:ag) (es:List LeT):List Int:=es.map (dA l)
def jA (l:ag) (b:Blk):List Int:=if b.kind=0 then [] else if b.kind=1 then [l.outs[b.item.toNat]?.getD 0] else if b.kind=2 then (l.sq b.item).ins else fD l b.les
def kD (l:ag) (b:Blk):List Int:=if b.kind=0 then [1+b.item] else if b.kind=1 then [] else if b.kind=2 then [1+l.inputs+b.item] else FR l b.les
def dY (l:ag) (b:Blk):Prop:=b.kind=0/\(0<=b.item/\b.item<l.inputs)∨b.kind=1/\(0<=b.item/\b.item<(l.outs.length:Int))∨b.kind=2/\(0<=b.item/\b.item<(l.seqs.length:Int)) ∨
 b.kind=3/\∀e∈b.les,dG l e
def dM (l:ag) (b:Blk):Prop:=dY l b/\(b.kind=3/\b.item=0/\(1<=b.les.length/\b.les.length<=2)/\(fD l b.les).length<=5∨b.kind≠3/\b.les=[]/\(b.kind=2→(l.sq b.item).kind=1))
/-! ### each part once -/
def bA (k:Int) (bs:List Blk):List Int:=bs.flatMap fun b=>if b.kind=k then [b.item] else []
def eT (bs:List Blk):List Int:=bs.flatMap fun b=>b.les.flatMap fun e=>if 0<=e.lut then [e.lut] else []
def di (bs:List Blk):List Int:=bs.flatMap fun b=>(if b.kind=2 then [b.item] else [])++b.les.flatMap fun e=>if 0<=e.ff then [e.ff] else []
def sJ (m:Nat) (xs:List Int):Prop:=∀k:Nat,k<m→cnt xs (k:Int)=1
structure fq (l:ag) (bs:List Blk):Prop where
 net:az l
 len:bs.length<=64
 fit:∀b∈bs,dM l b
 ins:sJ l.inputs.toNat (bA 0 bs)
 outs:sJ l.outs.length (bA 1 bs)
 seqs:sJ l.seqs.length (di bs)
 luts:sJ l.luts.length (eT bs)
/-! ### connections -/
def nO (n:Int) (j:Nat) (ps:List Int) (q:Nat):List bS:=(List.range q).flatMap fun (k:Nat)=>if ps[k]?.getD 0=n then [⟨(j:Int),(k:Int)⟩] else []
def gu (g:List (List Int)) (n:Int) (j:Nat):List bS:=(List.range j).flatMap fun (i:Nat)=>nO n i (g[i]?.getD []) (g[i]?.getD []).length
def uq (g:List (List Int)) (i p:Nat) (n:Int):List Cn:=if (gu g n g.length).length=0 then [] else [⟨n,⟨(i:Int),(p:Int)⟩,gu g n g.length⟩]
def iO (g:List (List Int)) (i:Nat) (os:List Int) (p:Nat):List Cn:=(List.range p).flatMap fun (k:Nat)=>uq g i k (os[k]?.getD 0)
def kw (l:ag) (bs:List Blk) (i:Nat):List Cn:=(List.range i).flatMap fun (k:Nat)=>iO (bs.map (jA l)) k (kD l (bs[k]?.getD Blk.zero)) (kD l (bs[k]?.getD Blk.zero)).length
def eY (l:ag) (bs:List Blk):List Cn:=kw l bs bs.length
/-! ### placements -/
def gG (k:Int):Int:=if k=0∨k=1 then 0 else if k=2 then 2 else if k=3 then 1 else -1
/-! ### ascending lists: the reference's way -/
def wh (ys out:List Int) (x:Int):List Int:=if 0<x/\x∉ys/\out.getLast?≠some x then out++[x] else out
theorem Ae {ys xs out:List Int} {x:Int} (u:∀y∈xs,y<=x) (ho:Asc out) (q:∀y,y∈out↔y∈xs/\0<y/\y∉ys):Asc (wh ys out x)/\∀y,y∈wh ys out x↔y∈xs++[x]/\0<y/\y∉ys:=by
 unfold wh
 split
 ·rename_i h
  refine ⟨?_,fun y=>?_⟩
  ·unfold Asc at *
   rw [List.pairwise_append]
   refine ⟨ho,by simp,fun a g b D=>?_⟩
   obtain rfl:=List.mem_singleton.1 D
   have h1:=u a ((q a).1 g).1
   rcases Int.lt_or_eq_of_le h1 with h2|rfl
   ·exact h2
   exfalso
   have j:out≠[]:=List.ne_nil_of_mem g
   have hl:=List.getLast_mem j
   have h3:=u _ ((q _).1 hl).1
   obtain ⟨B,z,rfl⟩:∃B z,out=B++[z]:=⟨out.dropLast,out.getLast j,(List.dropLast_concat_getLast j).symm⟩
   have h3:z<=a:=u z ((q z).1 (by simp)).1
   have h4:a<=z:=by
    rw [List.pairwise_append] at ho
    rcases List.mem_append.1 g with g|g
    ·exact Int.le_of_lt (ho.2.2 a g z (by simp))
    rw [List.mem_singleton.1 g];exact Int.le_refl z
   exact h.2.2 (by rw [List.getLast?_concat,Int.le_antisymm h3 h4])
  rw [List.mem_append,q,List.mem_append,List.mem_singleton]
  constructor
  ·rintro (h1|rfl)
   ·exact ⟨.inl h1.1,h1.2⟩
   exact ⟨.inr rfl,h.1,h.2.1⟩
  rintro ⟨h1|rfl,h2⟩
  ·exact .inl ⟨h1,h2⟩
  exact .inr rfl
 rename_i h
 refine ⟨ho,fun y=>?_⟩
 rw [q,List.mem_append,List.mem_singleton]
 constructor
 ·rintro ⟨h1,h2⟩
  exact ⟨.inl h1,h2⟩
 rintro ⟨h1|rfl,h2⟩
 ·exact ⟨h1,h2⟩
 have hl:out.getLast?=some y:=by
  rcases Classical.em (out.getLast?=some y) with h3|h3
  ·exact h3
  exact absurd ⟨h2.1,h2.2,h3⟩ h
 exact (q y).1 (List.mem_of_getLast? hl)
theorem FZ {xs out:List Int} (ho:Asc out) {P:Int→Prop} [DecidablePred P] (g:∀y,y∈out↔y∈xs/\P y):out=asc (xs.filter fun x=>decide (P x)) :=
 qB ho (uQ _) fun y=>by rw [sU,g,List.mem_filter,decide_eq_true_iff]
/-! ### the reference's ascending lists -/
def nP (ys xs:List Int):Nat→List Int
 | 0=>[]
 | k+1=>wh ys (nP ys xs k) (xs[k]?.getD 0)
theorem bU {α:Type} {xs:List α} {k:Nat} {z:α} (h:k<xs.length):xs.take (k+1)=xs.take k++[xs[k]?.getD z]:=by
 rw [List.take_add_one,List.getElem?_eq_getElem h]
 rfl
theorem Cm {ys xs:List Int} (hs:xs.Pairwise (·<=·)):∀{k:Nat},k<=xs.length→Asc (nP ys xs k)/\∀y,y∈nP ys xs k↔y∈xs.take k/\0<y/\y∉ys:=by
 intro k
 induction k with
 | zero=>intro _;exact ⟨by simp [nP,Asc],fun y=>by simp [nP]⟩
 | succ k ih =>
  intro hk
  obtain ⟨h1,h2⟩:=ih (by omega)
  rw [nP,bU (z:=0) (by omega)]
  refine Ae (fun y j=>?_) h1 h2
  have g:k<xs.length:=by omega
  rw [List.getElem?_eq_getElem g,Option.getD_some]
  obtain ⟨i,hi,rfl⟩:=List.getElem_of_mem j
  rw [List.length_take] at hi
  rw [List.getElem_take]
  exact List.pairwise_iff_getElem.1 hs i k (by omega) g (by omega)
theorem Af {ys xs g:List Int} (hs:xs.Pairwise (·<=·)) (j:xs.Perm g):nP ys xs xs.length=asc (g.filter fun x=>decide (0<x/\x∉ys)):=by
 obtain ⟨h1,h2⟩:=Cm (ys:=ys) hs (Nat.le_refl _)
 refine FZ h1 fun y=>?_
 rw [h2,List.take_length,j.mem_iff]
theorem Ag {l:ag} {e:LeT} (h:∀x∈qL l e,0<=x):asc ((qL l e).filter fun x=>decide (0<x/\x∉([]:List Int)))=iB l e:=by
 unfold iB
 rw [show (qL l e).filter (fun x=>decide (0<x/\x∉([]:List Int)))=(qL l e).filter (fun x=>decide (x≠0)) from List.filter_congr fun x g=>by
  have:=h x g
  exact decide_eq_decide.2 ⟨fun h=>by omega,fun h=>⟨by omega,by simp⟩⟩]
theorem C8 {l:ag} {e:LeT} {x:Int}:x∈iB l e↔x∈qL l e/\x≠0:=by
 unfold iB
 rw [sU,List.mem_filter,decide_eq_true_iff]
/-! ### the program's ascending lists -/
theorem mI (p:Int→Bool) (xs:List Int) (x:Int):asc ((xs++[x]).filter p)=if p x=true then ins (asc (xs.filter p)) x else asc (xs.filter p):=by
 rw [List.filter_append]
 split
 ·rename_i h
  rw [List.filter_cons_of_pos h,List.filter_nil,qA]
 rename_i h
 rw [List.filter_cons_of_neg h,List.filter_nil,List.append_nil]
/-! ### placements -/
structure eG (d:Dev) (kinds place:List Int):Prop where
 dev:dR d=true
 len:kinds.length<=64
 same:place.length=kinds.length
 tile:∀k:Nat,k<kinds.length→bB d (place[k]?.getD 0)=true/\bL d (place[k]?.getD 0)=gG (kinds[k]?.getD 0)
 once:place.Nodup
/-! ### connections -/
def gJ (n:Int) (p:bS):Prop:=(0<=p.block/\p.block<n)/\0<=p.pin/\p.pin<=4
structure oz (n:Int) (c:Cn):Prop where
 len:1<=c.sinks.length/\c.sinks.length<=120
 src:gJ n c.src
 sinks:∀p∈c.sinks,gJ n p
structure jJ (n:Int) (cs:List Cn):Prop where
 blocks:0<=n/\n<=64
 len:cs.length<=100
 fit:∀c∈cs,oz n c
/-! ### routes -/
def oI (d:Dev) (t p:Int):Int:=if bB d t=true/\0<=p/\p<jT (bL d t) then t * aV d+p else -1
def fQ (d:Dev) (place:List Int) (c:Cn):Int:=if 0<=c.src.block/\c.src.block<(place.length:Int) then eX d (place[c.src.block.toNat]?.getD 0) c.src.pin else -1
def dH (d:Dev) (place:List Int) (p:bS):Int:=if 0<=p.block/\p.block<(place.length:Int) then oI d (place[p.block.toNat]?.getD 0) p.pin else -1
def gy (d:Dev) (place:List Int) (c:Cn):Prop:=∀p∈c.sinks,0<=dH d place p
def dL (d:Dev) (place:List Int) (c:Cn):List Int:=c.sinks.map (dH d place)
structure dB (d:Dev) (source:Int) (sinks:List Int) (r:Rou):Prop where
 len:1<=r.nodes.length/\(r.nodes.length:Int)<=gH d
 dev:dR d=true
 same:r.from_.length=r.nodes.length
 node:∀n∈r.nodes,bQ d n=true
 once:r.nodes.Nodup
 root:r.nodes[0]?.getD 0=source/\r.from_[0]?.getD 0=0/\(source % aV d=5∨source % aV d=6)
 step:∀i:Nat,0<i→i<r.nodes.length→(0<=r.from_[i]?.getD 0/\r.from_[i]?.getD 0<(i:Int))/\r.nodes[(r.from_[i]?.getD 0).toNat]?.getD 0∈fe d (r.nodes[i]?.getD 0)
 pins:∀n∈r.nodes,n % aV d<5→n∈sinks
 sinks:∀n∈sinks,n∈r.nodes
structure fA (d:Dev) (place:List Int) (cs:List Cn) (rs:List Rou):Prop where
 conns:jJ place.length cs
 len:rs.length=cs.length
 fit:∀i:Nat,i<cs.length→gy d place (cs[i]?.getD Cn.zero)/\dB d (fQ d place (cs[i]?.getD Cn.zero)) (dL d place (cs[i]?.getD Cn.zero)) (rs[i]?.getD Rou.zero)
 once:(rs.flatMap Rou.nodes).Nodup
/-! ### layouts -/
structure Lay where
 net:ag
 blocks:List Blk
 conns:List Cn
 place:List Int
 routes:List Rou
structure jB (d:Dev) (x:Lay):Prop where
 pack:fq x.net x.blocks
 conns:x.conns=eY x.net x.blocks
 place:eG d (x.blocks.map Blk.kind) x.place
 routes:fA d x.place x.conns x.routes
/-! ### the steps of the loops -/
theorem dZ {xs:List Int} {x:Int}:(xs++[x]).Nodup↔xs.Nodup/\x∉xs:=by
 rw [List.nodup_append]
 constructor
 ·rintro ⟨h1,_,h3⟩
  exact ⟨h1,fun j=>h3 x j x (by simp) rfl⟩
 rintro ⟨h1,h2⟩
 exact ⟨h1,by simp,fun a q b g e=>h2 (by rw [List.mem_singleton.1 g] at e;exact e ▸ q)⟩
theorem kG {α:Type} (f:Nat→List α) (k:Nat):(List.range (k+1)).flatMap f=(List.range k).flatMap f++f k:=by
 rw [List.range_succ,List.flatMap_append,List.flatMap_singleton]
theorem ut (n:Int) (j:Nat) (ps:List Int) (q:Nat):nO n j ps (q+1)=nO n j ps q++if ps[q]?.getD 0=n then [⟨(j:Int),(q:Int)⟩] else []:=by
 unfold nO
 rw [kG]
theorem sK (g:List (List Int)) (n:Int) (j:Nat):gu g n (j+1)=gu g n j++nO n j (g[j]?.getD []) (g[j]?.getD []).length:=by
 unfold gu
 rw [kG]
theorem rQ (g:List (List Int)) (i:Nat) (os:List Int) (p:Nat):iO g i os (p+1)=iO g i os p++uq g i p (os[p]?.getD 0):=by
 unfold iO
 rw [kG]
theorem qQ (l:ag) (bs:List Blk) (i:Nat):kw l bs (i+1)=kw l bs i++iO (bs.map (jA l)) i (kD l (bs[i]?.getD Blk.zero)) (kD l (bs[i]?.getD Blk.zero)).length:=by
 unfold kw
 rw [kG]
end Go.Proofs.YtofihjoanjkdmaaGreat
