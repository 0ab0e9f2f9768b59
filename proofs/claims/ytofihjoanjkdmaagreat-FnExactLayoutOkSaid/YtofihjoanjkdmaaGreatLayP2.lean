/- Blocks, their pins and the connections between them, in plain terms. -/
import Derived.Test.YtofihjoanjkdmaaGreatLnB
import Derived.Test.YtofihjoanjkdmaaGreatRtPure
namespace Go.Proofs.YtofihjoanjkdmaaGreat
set_option maxRecDepth 100000
open Go.RowKit
structure LeT where
 lut:Int
 ff:Int
structure Blk where
 kind:Int
 item:Int
 les:List LeT
structure bQ where
 block:Int
 pin:Int
structure Cn where
 node:Int
 src:bQ
 sinks:List bQ
structure Rou where
 nodes:List Int
 from_:List Int
def LeT.zero:LeT:=⟨0,0⟩
def Blk.zero:Blk:=⟨0,0,[]⟩
def bQ.zero:bQ:=⟨0,0⟩
def Cn.zero:Cn:=⟨0,bQ.zero,[]⟩
def Rou.zero:Rou:=⟨[],[]⟩
def ai.lut (l:ai) (k:Int):Lt:=l.luts[k.toNat]?.getD Lt.zero
def ai.sq (l:ai) (k:Int):Sq:=l.seqs[k.toNat]?.getD Sq.zero
/-! ### how often a node is used -/
def cnt (xs:List Int) (n:Int):Nat:=xs.countP fun x=>decide (x=n)
def vQ (l:ai) (n:Int):Nat:=cnt (l.luts.flatMap Lt.ins) n+cnt (l.seqs.flatMap Sq.ins) n+cnt l.outs n
def aG (m:Nat) (xs:List Int):List Int:=(List.range m).map fun (k:Nat)=>((cnt xs (k:Int):Nat):Int)
theorem jq (m:Nat) (xs:List Int):(aG m xs).length=m:=by simp [aG]
theorem iL {m k:Nat} (xs:List Int) (h:k<m):(aG m xs)[k]?.getD 0=((cnt xs (k:Int):Nat):Int):=by
 unfold aG
 rw [List.getElem?_map,List.getElem?_range h]
 rfl
theorem mJ (m:Nat):aG m []=List.replicate m 0:=by
 apply List.ext_getElem
 ·simp [aG]
 ·intro i _ _
  simp [aG,cnt]
theorem yH (xs:List Int) (x n:Int):cnt (xs++[x]) n=cnt xs n+if x=n then 1 else 0:=by
 unfold cnt
 rw [List.countP_append]
 by_cases h:x=n <;> simp [h]
theorem qF (xs ys:List Int) (n:Int):cnt (xs++ys) n=cnt xs n+cnt ys n:=by
 unfold cnt
 rw [List.countP_append]
theorem d9 (xs:List Int) (n:Int):cnt xs n<=xs.length:=List.countP_le_length
theorem pE {m:Nat} (xs:List Int) {x:Int} (h0:0<=x):(aG m xs).set x.toNat (((cnt xs x:Nat):Int)+1)=aG m (xs++[x]):=by
 apply List.ext_getElem
 ·simp [aG]
 ·intro i hi _
  have him:i<m:=by simpa [aG] using hi
  rw [List.getElem_set]
  simp only [aG,List.getElem_map,List.getElem_range]
  rw [yH]
  split
  ·rename_i e
   have e':x=(i:Int):=by omega
   rw [if_pos e',←e']
   omega
  ·rename_i e
   rw [if_neg (by omega)]
   omega
theorem zA (l:ai) (n:Int):vQ l n=cnt (l.luts.flatMap Lt.ins++l.seqs.flatMap Sq.ins++l.outs) n:=by
 unfold vQ
 rw [qF,qF]
/-! ### logic elements -/
structure dM (l:ai) (e:LeT):Prop where
 lut:-1<=e.lut/\e.lut<(l.luts.length:Int)
 ff:-1<=e.ff/\e.ff<(l.seqs.length:Int)
 one:¬(e.lut=-1/\e.ff=-1)
 flop:0<=e.ff→(l.sq e.ff).kind=0
 both:0<=e.lut→0<=e.ff→(l.sq e.ff).ins[0]?.getD 0=(l.first:Int)+e.lut/\vQ l ((l.first:Int)+e.lut)=1
def mY (l:ai) (e:LeT):List Int:=if 0<=e.lut then (l.lut e.lut).ins else (l.sq e.ff).ins
def fq (l:ai) (e:LeT):List Int:=asc ((mY l e).filter fun x=>decide (x≠0))
def dP (l:ai) (e:LeT):Int:=if 0<=e.ff then 1+l.inputs+e.ff else (l.first:Int)+e.lut
/-! ### pins of blocks -/
def zT (xs ys:List Int):List Int:=asc (xs.filter fun x=>decide (x∉ys))
def kX (l:ai) (es:List LeT):List Int:=zT (es.flatMap (fq l)) (es.map (dP l))
def zH (l:ai) (es:List LeT):List Int:=es.map (dP l)
def gV (l:ai) (b:Blk):List Int:=if b.kind=0 then [] else if b.kind=1 then [l.outs[b.item.toNat]?.getD 0] else if b.kind=2 then (l.sq b.item).ins else kX l b.les
def iw (l:ai) (b:Blk):List Int:=if b.kind=0 then [1+b.item] else if b.kind=1 then [] else if b.kind=2 then [1+l.inputs+b.item] else zH l b.les
def dD (l:ai) (b:Blk):Prop:=b.kind=0/\(0<=b.item/\b.item<l.inputs)∨b.kind=1/\(0<=b.item/\b.item<(l.outs.length:Int))∨b.kind=2/\(0<=b.item/\b.item<(l.seqs.length:Int)) ∨
 b.kind=3/\∀e∈b.les,dM l e
def cZ (l:ai) (b:Blk):Prop:=dD l b/\(b.kind=3/\b.item=0/\(1<=b.les.length/\b.les.length<=2)/\(kX l b.les).length<=5∨b.kind≠3/\b.les=[]/\(b.kind=2→(l.sq b.item).kind=1))
/-! ### each part once -/
def ak (k:Int) (bs:List Blk):List Int:=bs.flatMap fun b=>if b.kind=k then [b.item] else []
def dX (bs:List Blk):List Int:=bs.flatMap fun b=>b.les.flatMap fun e=>if 0<=e.lut then [e.lut] else []
def dH (bs:List Blk):List Int:=bs.flatMap fun b=>(if b.kind=2 then [b.item] else [])++b.les.flatMap fun e=>if 0<=e.ff then [e.ff] else []
def oC (m:Nat) (xs:List Int):Prop:=∀k:Nat,k<m→cnt xs (k:Int)=1
structure eY (l:ai) (bs:List Blk):Prop where
 net:bB l
 len:bs.length<=64
 fit:∀b∈bs,cZ l b
 ins:oC l.inputs.toNat (ak 0 bs)
 outs:oC l.outs.length (ak 1 bs)
 seqs:oC l.seqs.length (dH bs)
 luts:oC l.luts.length (dX bs)
/-! ### connections -/
def kY (n:Int) (j:Nat) (ps:List Int) (q:Nat):List bQ:=(List.range q).flatMap fun (k:Nat)=>if ps[k]?.getD 0=n then [⟨(j:Int),(k:Int)⟩] else []
def fJ (pss:List (List Int)) (n:Int) (j:Nat):List bQ:=(List.range j).flatMap fun (i:Nat)=>kY n i (pss[i]?.getD []) (pss[i]?.getD []).length
def qG (pss:List (List Int)) (i p:Nat) (n:Int):List Cn:=if (fJ pss n pss.length).length=0 then [] else [⟨n,⟨(i:Int),(p:Int)⟩,fJ pss n pss.length⟩]
def fu (pss:List (List Int)) (i:Nat) (os:List Int) (p:Nat):List Cn:=(List.range p).flatMap fun (k:Nat)=>qG pss i k (os[k]?.getD 0)
def jW (l:ai) (bs:List Blk) (i:Nat):List Cn:=(List.range i).flatMap fun (k:Nat)=>fu (bs.map (gV l)) k (iw l (bs[k]?.getD Blk.zero)) (iw l (bs[k]?.getD Blk.zero)).length
def df (l:ai) (bs:List Blk):List Cn:=jW l bs bs.length
/-! ### placements -/
def fC (k:Int):Int:=if k=0∨k=1 then 0 else if k=2 then 2 else if k=3 then 1 else -1
/-! ### ascending lists: the reference's way -/
def rH (ys out:List Int) (x:Int):List Int:=if 0<x/\x∉ys/\out.getLast?≠some x then out++[x] else out
theorem vR {ys xs out:List Int} {x:Int} (hx:∀y∈xs,y<=x) (ho:Asc out) (hm:∀y,y∈out↔y∈xs/\0<y/\y∉ys):Asc (rH ys out x)/\∀y,y∈rH ys out x↔y∈xs++[x]/\0<y/\y∉ys:=by
 unfold rH
 split
 ·rename_i h
  refine ⟨?_,fun y=>?_⟩
  ·unfold Asc at *
   rw [List.pairwise_append]
   refine ⟨ho,by simp,fun a ha b hb=>?_⟩
   obtain rfl:=List.mem_singleton.1 hb
   have h1:=hx a ((hm a).1 ha).1
   rcases Int.lt_or_eq_of_le h1 with h2|rfl
   ·exact h2
   ·exfalso
    have hne:out≠[]:=List.ne_nil_of_mem ha
    have hl:=List.getLast_mem hne
    have h3:=hx _ ((hm _).1 hl).1
    obtain ⟨o',z,rfl⟩:∃o' z,out=o'++[z]:=⟨out.dropLast,out.getLast hne,(List.dropLast_concat_getLast hne).symm⟩
    have h3:z<=a:=hx z ((hm z).1 (by simp)).1
    have h4:a<=z:=by
     rw [List.pairwise_append] at ho
     rcases List.mem_append.1 ha with ha|ha
     ·exact Int.le_of_lt (ho.2.2 a ha z (by simp))
     ·rw [List.mem_singleton.1 ha];exact Int.le_refl z
    exact h.2.2 (by rw [List.getLast?_concat,Int.le_antisymm h3 h4])
  ·rw [List.mem_append,hm,List.mem_append,List.mem_singleton]
   constructor
   ·rintro (h1|rfl)
    ·exact ⟨.inl h1.1,h1.2⟩
    ·exact ⟨.inr rfl,h.1,h.2.1⟩
   ·rintro ⟨h1|rfl,h2⟩
    ·exact .inl ⟨h1,h2⟩
    ·exact .inr rfl
 ·rename_i h
  refine ⟨ho,fun y=>?_⟩
  rw [hm,List.mem_append,List.mem_singleton]
  constructor
  ·rintro ⟨h1,h2⟩
   exact ⟨.inl h1,h2⟩
  ·rintro ⟨h1|rfl,h2⟩
   ·exact ⟨h1,h2⟩
   ·have hl:out.getLast?=some y:=by
     rcases Classical.em (out.getLast?=some y) with h3|h3
     ·exact h3
     ·exact absurd ⟨h2.1,h2.2,h3⟩ h
    exact (hm y).1 (List.mem_of_getLast? hl)
theorem zM {xs out:List Int} (ho:Asc out) {P:Int→Prop} [DecidablePred P] (hm:∀y,y∈out↔y∈xs/\P y):out=asc (xs.filter fun x=>decide (P x)) :=
 mO ho (pY _) fun y=>by rw [oI,hm,List.mem_filter,decide_eq_true_iff]
/-! ### the reference's ascending lists -/
def kZ (ys xs:List Int):Nat→List Int
 | 0=>[]
 | k+1=>rH ys (kZ ys xs k) (xs[k]?.getD 0)
theorem bJ {α:Type} {xs:List α} {k:Nat} {z:α} (h:k<xs.length):xs.take (k+1)=xs.take k++[xs[k]?.getD z]:=by
 rw [List.take_add_one,List.getElem?_eq_getElem h]
 rfl
theorem xL {ys xs:List Int} (hs:xs.Pairwise (·<=·)):∀{k:Nat},k<=xs.length→Asc (kZ ys xs k)/\∀y,y∈kZ ys xs k↔y∈xs.take k/\0<y/\y∉ys:=by
 intro k
 induction k with
 | zero=>intro _;exact ⟨by simp [kZ,Asc],fun y=>by simp [kZ]⟩
 | succ k ih =>
  intro hk
  obtain ⟨h1,h2⟩:=ih (by omega)
  rw [kZ,bJ (z:=0) (by omega)]
  refine vR (fun y hy=>?_) h1 h2
  have hk':k<xs.length:=by omega
  rw [List.getElem?_eq_getElem hk',Option.getD_some]
  obtain ⟨i,hi,rfl⟩:=List.getElem_of_mem hy
  rw [List.length_take] at hi
  rw [List.getElem_take]
  exact List.pairwise_iff_getElem.1 hs i k (by omega) hk' (by omega)
theorem vS {ys xs zs:List Int} (hs:xs.Pairwise (·<=·)) (hp:xs.Perm zs):kZ ys xs xs.length=asc (zs.filter fun x=>decide (0<x/\x∉ys)):=by
 obtain ⟨h1,h2⟩:=xL (ys:=ys) hs (Nat.le_refl _)
 refine zM h1 fun y=>?_
 rw [h2,List.take_length,hp.mem_iff]
theorem vT {l:ai} {e:LeT} (h:∀x∈mY l e,0<=x):asc ((mY l e).filter fun x=>decide (0<x/\x∉([]:List Int)))=fq l e:=by
 unfold fq
 rw [show (mY l e).filter (fun x=>decide (0<x/\x∉([]:List Int)))=(mY l e).filter (fun x=>decide (x≠0)) from List.filter_congr fun x hx=>by
  have:=h x hx
  exact decide_eq_decide.2 ⟨fun h=>by omega,fun h=>⟨by omega,by simp⟩⟩]
theorem xM {l:ai} {e:LeT} {x:Int}:x∈fq l e↔x∈mY l e/\x≠0:=by
 unfold fq
 rw [oI,List.mem_filter,decide_eq_true_iff]
/-! ### the program's ascending lists -/
theorem j3 (p:Int→Bool) (xs:List Int) (x:Int):asc ((xs++[x]).filter p)=if p x=true then ins (asc (xs.filter p)) x else asc (xs.filter p):=by
 rw [List.filter_append]
 split
 ·rename_i h
  rw [List.filter_cons_of_pos h,List.filter_nil,mM]
 ·rename_i h
  rw [List.filter_cons_of_neg h,List.filter_nil,List.append_nil]
/-! ### placements -/
structure di (d:Dev) (kinds place:List Int):Prop where
 dev:dQ d=true
 len:kinds.length<=64
 same:place.length=kinds.length
 tile:∀k:Nat,k<kinds.length→au d (place[k]?.getD 0)=true/\bA d (place[k]?.getD 0)=fC (kinds[k]?.getD 0)
 once:place.Nodup
/-! ### connections -/
def fD (n:Int) (p:bQ):Prop:=(0<=p.block/\p.block<n)/\0<=p.pin/\p.pin<=4
structure lw (n:Int) (c:Cn):Prop where
 len:1<=c.sinks.length/\c.sinks.length<=120
 src:fD n c.src
 sinks:∀p∈c.sinks,fD n p
structure gY (n:Int) (cs:List Cn):Prop where
 blocks:0<=n/\n<=64
 len:cs.length<=100
 fit:∀c∈cs,lw n c
/-! ### routes -/
def lL (d:Dev) (t p:Int):Int:=if au d t=true/\0<=p/\p<iC (bA d t) then t * aX d+p else -1
def eP (d:Dev) (place:List Int) (c:Cn):Int:=if 0<=c.src.block/\c.src.block<(place.length:Int) then dZ d (place[c.src.block.toNat]?.getD 0) c.src.pin else -1
def bV (d:Dev) (place:List Int) (p:bQ):Int:=if 0<=p.block/\p.block<(place.length:Int) then lL d (place[p.block.toNat]?.getD 0) p.pin else -1
def fK (d:Dev) (place:List Int) (c:Cn):Prop:=∀p∈c.sinks,0<=bV d place p
def bZ (d:Dev) (place:List Int) (c:Cn):List Int:=c.sinks.map (bV d place)
structure bU (d:Dev) (source:Int) (sinks:List Int) (r:Rou):Prop where
 len:1<=r.nodes.length/\(r.nodes.length:Int)<=fe d
 dev:dQ d=true
 same:r.from_.length=r.nodes.length
 node:∀n∈r.nodes,bH d n=true
 once:r.nodes.Nodup
 root:r.nodes[0]?.getD 0=source/\r.from_[0]?.getD 0=0/\(source % aX d=5∨source % aX d=6)
 step:∀i:Nat,0<i→i<r.nodes.length→(0<=r.from_[i]?.getD 0/\r.from_[i]?.getD 0<(i:Int))/\r.nodes[(r.from_[i]?.getD 0).toNat]?.getD 0∈iE d (r.nodes[i]?.getD 0)
 pins:∀n∈r.nodes,n % aX d<5→n∈sinks
 sinks:∀n∈sinks,n∈r.nodes
structure eD (d:Dev) (place:List Int) (cs:List Cn) (rs:List Rou):Prop where
 conns:gY place.length cs
 len:rs.length=cs.length
 fit:∀i:Nat,i<cs.length→fK d place (cs[i]?.getD Cn.zero)/\bU d (eP d place (cs[i]?.getD Cn.zero)) (bZ d place (cs[i]?.getD Cn.zero)) (rs[i]?.getD Rou.zero)
 once:(rs.flatMap Rou.nodes).Nodup
/-! ### layouts -/
structure Lay where
 net:ai
 blocks:List Blk
 conns:List Cn
 place:List Int
 routes:List Rou
structure jg (d:Dev) (x:Lay):Prop where
 pack:eY x.net x.blocks
 conns:x.conns=df x.net x.blocks
 place:di d (x.blocks.map Blk.kind) x.place
 routes:eD d x.place x.conns x.routes
/-! ### the steps of the loops -/
theorem dG {xs:List Int} {x:Int}:(xs++[x]).Nodup↔xs.Nodup/\x∉xs:=by
 rw [List.nodup_append]
 constructor
 ·rintro ⟨h1,_,h3⟩
  exact ⟨h1,fun hx=>h3 x hx x (by simp) rfl⟩
 ·rintro ⟨h1,h2⟩
  exact ⟨h1,by simp,fun a ha b hb e=>h2 (by rw [List.mem_singleton.1 hb] at e;exact e ▸ ha)⟩
theorem jE {α:Type} (f:Nat→List α) (k:Nat):(List.range (k+1)).flatMap f=(List.range k).flatMap f++f k:=by
 rw [List.range_succ,List.flatMap_append,List.flatMap_singleton]
theorem qH (n:Int) (j:Nat) (ps:List Int) (q:Nat):kY n j ps (q+1)=kY n j ps q++if ps[q]?.getD 0=n then [⟨(j:Int),(q:Int)⟩] else []:=by
 unfold kY
 rw [jE]
theorem oD (pss:List (List Int)) (n:Int) (j:Nat):fJ pss n (j+1)=fJ pss n j++kY n j (pss[j]?.getD []) (pss[j]?.getD []).length:=by
 unfold fJ
 rw [jE]
theorem nW (pss:List (List Int)) (i:Nat) (os:List Int) (p:Nat):fu pss i os (p+1)=fu pss i os p++qG pss i p (os[p]?.getD 0):=by
 unfold fu
 rw [jE]
theorem mi (l:ai) (bs:List Blk) (i:Nat):jW l bs (i+1)=jW l bs i++fu (bs.map (gV l)) i (iw l (bs[i]?.getD Blk.zero)) (iw l (bs[i]?.getD Blk.zero)).length:=by
 unfold jW
 rw [jE]
end Go.Proofs.YtofihjoanjkdmaaGreat
