/- Blocks, their pins and the connections between them, in plain terms. -/
import Derived.Test.YtofihjoanjkdmaaGreatLnB
import Derived.Test.YtofihjoanjkdmaaGreatRtPure
namespace Go.Proofs.YtofihjoanjkdmaaGreat
set_option maxRecDepth 100000
open Go.RowKit
structure LeT where
 lut:Int
 ff:Int
structure Blk where
 kind:Int
 item:Int
 les:List LeT
structure aL where
 block:Int
 pin:Int
structure Cn where
 node:Int
 src:aL
 sinks:List aL
structure Rou where
 nodes:List Int
 from_:List Int
def LeT.zero:LeT:=⟨0,0⟩
def Blk.zero:Blk:=⟨0,0,[]⟩
def aL.zero:aL:=⟨0,0⟩
def Cn.zero:Cn:=⟨0,aL.zero,[]⟩
def Rou.zero:Rou:=⟨[],[]⟩
def aU.lut(l:aU)(k:Int):Lt:=l.luts[k.toNat]?.getD Lt.zero
def aU.sq(l:aU)(k:Int):Sq:=l.seqs[k.toNat]?.getD Sq.zero
/-! ### how often a node is used -/
def cnt(xs:List Int)(n:Int):Nat:=xs.countP fun x=>decide (x=n)
def DT(l:aU)(n:Int):Nat:=cnt (l.luts.flatMap Lt.ins) n+cnt (l.seqs.flatMap Sq.ins) n+cnt l.outs n
def aK(m:Nat)(xs:List Int):List Int:=(List.range m).map fun(k:Nat)=>((cnt xs (k:Int):Nat):Int)
theorem mf(m:Nat)(xs:List Int):(aK m xs).length=m:=by simp[aK]
theorem jZ{m k:Nat}(xs:List Int)(h:k<m):(aK m xs)[k]?.getD 0=((cnt xs (k:Int):Nat):Int):=by
 unfold aK;rw[List.getElem?_map,List.getElem?_range h];rfl
theorem rE(m:Nat):aK m []=List.replicate m 0:=by
 apply List.ext_getElem
 ·simp[aK]
 intro i _ _;simp[aK,cnt]
theorem LU(xs:List Int)(x n:Int):cnt (xs++[x]) n=cnt xs n+if x=n then 1 else 0:=by
 unfold cnt;rw[List.countP_append];by_cases h:x=n <;> simp[h]
theorem dX(xs ys:List Int)(n:Int):cnt (xs++ys) n=cnt xs n+cnt ys n:=by
 unfold cnt;rw[List.countP_append]
theorem j5(xs:List Int)(n:Int):cnt xs n<=xs.length:=List.countP_le_length
theorem xk{m:Nat}(xs:List Int){x:Int}(h0:0<=x):(aK m xs).set x.toNat (((cnt xs x:Nat):Int)+1)=aK m (xs++[x]):=by
 apply List.ext_getElem
 ·simp[aK]
 intro i hi _;have g:i<m:=by simpa [aK]using hi
 rw[List.getElem_set];simp only[aK,List.getElem_map,List.getElem_range];rw[LU]
 split
 ·rename_i e;have e':x=(i:Int):=by omega
  rw[if_pos e',←e'];omega
 rename_i e;rw[if_neg (by omega)];omega
theorem JZ(l:aU)(n:Int):DT l n=cnt (l.luts.flatMap Lt.ins++l.seqs.flatMap Sq.ins++l.outs) n:=by
 unfold DT;rw[dX,dX]
/-! ### logic elements -/
structure eB(l:aU)(e:LeT):Prop where
 lut:-1<=e.lut/\e.lut<(l.luts.length:Int)
 ff:-1<=e.ff/\e.ff<(l.seqs.length:Int)
 one:¬(e.lut=-1/\e.ff=-1)
 flop:0<=e.ff→(l.sq e.ff).kind=0
 both:0<=e.lut→0<=e.ff→(l.sq e.ff).ins[0]?.getD 0=(l.first:Int)+e.lut/\DT l ((l.first:Int)+e.lut)=1
def qY(l:aU)(e:LeT):List Int:=if 0<=e.lut then(l.lut e.lut).ins else(l.sq e.ff).ins
def fD(l:aU)(e:LeT):List Int:=asc ((qY l e).filter fun x=>decide (x≠0))
def dM(l:aU)(e:LeT):Int:=if 0<=e.ff then 1+l.inputs+e.ff else(l.first:Int)+e.lut
/-! ### pins of blocks -/
def LV(xs ys:List Int):List Int:=asc (xs.filter fun x=>decide (x∉ys))
def qA(l:aU)(es:List LeT):List Int:=LV (es.flatMap (fD l)) (es.map (dM l))
def Nl(l:aU)(es:List LeT):List Int:=es.map (dM l)
def iU(l:aU)(b:Blk):List Int:=if b.kind=0 then[]else if b.kind=1 then[l.outs[b.item.toNat]?.getD 0]else if b.kind=2 then(l.sq b.item).ins else qA l b.les
def j4(l:aU)(b:Blk):List Int:=if b.kind=0 then[1+b.item]else if b.kind=1 then[]else if b.kind=2 then[1+l.inputs+b.item]else Nl l b.les
def nA(l:aU)(b:Blk):Prop:=b.kind=0/\(0<=b.item/\b.item<l.inputs)∨b.kind=1/\(0<=b.item/\b.item<(l.outs.length:Int))∨b.kind=2/\(0<=b.item/\b.item<(l.seqs.length:Int)) ∨
 b.kind=3/\∀e∈b.les,eB l e
def ja(l:aU)(b:Blk):Prop:=nA l b/\(b.kind=3/\b.item=0/\(1<=b.les.length/\b.les.length<=2)/\(qA l b.les).length<=5∨b.kind≠3/\b.les=[]/\(b.kind=2→(l.sq b.item).kind=1))
/-! ### each part once -/
def bH(k:Int)(bs:List Blk):List Int:=bs.flatMap fun b=>if b.kind=k then[b.item]else[]
def jF(bs:List Blk):List Int:=bs.flatMap fun b=>b.les.flatMap fun e=>if 0<=e.lut then[e.lut]else[]
def gm(bs:List Blk):List Int:=bs.flatMap fun b=>(if b.kind=2 then[b.item]else[])++b.les.flatMap fun e=>if 0<=e.ff then[e.ff]else[]
def J2(m:Nat)(xs:List Int):Prop:=∀k:Nat,k<m→cnt xs (k:Int)=1
structure uE(l:aU)(bs:List Blk):Prop where
 net:bJ l
 len:bs.length<=64
 fit:∀b∈bs,ja l b
 ins:J2 l.inputs.toNat (bH 0 bs)
 outs:J2 l.outs.length (bH 1 bs)
 seqs:J2 l.seqs.length (gm bs)
 luts:J2 l.luts.length (jF bs)
/-! ### connections -/
def nC(n:Int)(j:Nat)(g:List Int)(q:Nat):List aL:=(List.range q).flatMap fun(k:Nat)=>if g[k]?.getD 0=n then[⟨(j:Int),(k:Int)⟩]else[]
def gQ(g:List (List Int))(n:Int)(j:Nat):List aL:=(List.range j).flatMap fun(i:Nat)=>nC n i (g[i]?.getD []) (g[i]?.getD []).length
def xm(g:List (List Int))(i p:Nat)(n:Int):List Cn:=if(gQ g n g.length).length=0 then[]else[⟨n,⟨(i:Int),(p:Int)⟩,gQ g n g.length⟩]
def iV(g:List (List Int))(i:Nat)(os:List Int)(p:Nat):List Cn:=(List.range p).flatMap fun(k:Nat)=>xm g i k (os[k]?.getD 0)
def kX(l:aU)(bs:List Blk)(i:Nat):List Cn:=(List.range i).flatMap fun(k:Nat)=>iV (bs.map (iU l)) k (j4 l (bs[k]?.getD Blk.zero)) (j4 l (bs[k]?.getD Blk.zero)).length
def kR(l:aU)(bs:List Blk):List Cn:=kX l bs bs.length
/-! ### placements -/
def aW(k:Int):Int:=if k=0∨k=1 then 0 else if k=2 then 2 else if k=3 then 1 else -1
/-! ### ascending lists: the reference's way -/
def BX(ys out:List Int)(x:Int):List Int:=if 0<x/\x∉ys/\out.getLast?≠some x then out++[x]else out
theorem IR{ys xs out:List Int}{x:Int}(hx:∀y∈xs,y<=x)(ho:Asc out)(hm:∀y,y∈out↔y∈xs/\0<y/\y∉ys):Asc (BX ys out x)/\∀y,y∈BX ys out x↔y∈xs++[x]/\0<y/\y∉ys:=by
 unfold BX
 split
 ·rename_i h;refine⟨?_,fun y=>?_⟩
  ·unfold Asc at *;rw[List.pairwise_append];refine⟨ho,by simp,fun a g b hb=>?_⟩;obtain rfl:=List.mem_singleton.1 hb;have h1:=hx a ((hm a).1 g).1
   rcases Int.lt_or_eq_of_le h1 with h2|rfl
   ·exact h2
   exfalso;have j:out≠[]:=List.ne_nil_of_mem g;have hl:=List.getLast_mem j;have h3:=hx _ ((hm _).1 hl).1;obtain⟨q,z,rfl⟩:∃q z,out=q++[z]:=⟨out.dropLast,out.getLast j,(List.dropLast_concat_getLast j).symm⟩;have h3:z<=a:=hx z ((hm z).1 (by simp)).1
   have u:a<=z:=by
    rw[List.pairwise_append]at ho
    rcases List.mem_append.1 g with g|g
    ·exact Int.le_of_lt (ho.2.2 a g z (by simp))
    rw[List.mem_singleton.1 g];exact Int.le_refl z
   exact h.2.2 (by rw[List.getLast?_concat,Int.le_antisymm h3 u])
  rw[List.mem_append,hm,List.mem_append,List.mem_singleton]
  constructor
  ·rintro(h1|rfl)
   ·exact⟨.inl h1.1,h1.2⟩
   exact⟨.inr rfl,h.1,h.2.1⟩
  rintro⟨h1|rfl,h2⟩
  ·exact .inl ⟨h1,h2⟩
  exact .inr rfl
 rename_i h;refine⟨ho,fun y=>?_⟩;rw[hm,List.mem_append,List.mem_singleton]
 constructor
 ·rintro⟨h1,h2⟩;exact⟨.inl h1,h2⟩
 rintro⟨h1|rfl,h2⟩
 ·exact⟨h1,h2⟩
 have hl:out.getLast?=some y:=by
  rcases Classical.em (out.getLast?=some y)with h3|h3
  ·exact h3
  exact absurd ⟨h2.1,h2.2,h3⟩ h
 exact(hm y).1 (List.mem_of_getLast? hl)
theorem Nw{xs out:List Int}(ho:Asc out){P:Int→Prop}[DecidablePred P](hm:∀y,y∈out↔y∈xs/\P y):out=asc (xs.filter fun x=>decide (P x)) :=
 pR ho (uK _) fun y=>by rw[rM,hm,List.mem_filter,decide_eq_true_iff]
/-! ### the reference's ascending lists -/
def pI(ys xs:List Int):Nat→List Int
 | 0=>[]
 | k+1=>BX ys (pI ys xs k) (xs[k]?.getD 0)
theorem bF{α:Type}{xs:List α}{k:Nat}{z:α}(h:k<xs.length):xs.take (k+1)=xs.take k++[xs[k]?.getD z]:=by
 rw[List.take_add_one,List.getElem?_eq_getElem h];rfl
theorem J3{ys xs:List Int}(hs:xs.Pairwise (·<=·)):∀{k:Nat},k<=xs.length→Asc (pI ys xs k)/\∀y,y∈pI ys xs k↔y∈xs.take k/\0<y/\y∉ys:=by
 intro k
 induction k with
 | zero=>intro _;exact⟨by simp[pI,Asc],fun y=>by simp[pI]⟩
 | succ k ih =>
  intro hk;obtain⟨h1,h2⟩:=ih (by omega);rw[pI,bF (z:=0) (by omega)];refine IR (fun y j=>?_) h1 h2;have g:k<xs.length:=by omega
  rw[List.getElem?_eq_getElem g,Option.getD_some];obtain⟨i,hi,rfl⟩:=List.getElem_of_mem j;rw[List.length_take]at hi;rw[List.getElem_take];exact List.pairwise_iff_getElem.1 hs i k (by omega) g (by omega)
theorem IU{ys xs g:List Int}(hs:xs.Pairwise (·<=·))(hp:xs.Perm g):pI ys xs xs.length=asc (g.filter fun x=>decide (0<x/\x∉ys)):=by
 obtain⟨h1,h2⟩:=J3 (ys:=ys) hs (Nat.le_refl _);refine Nw h1 fun y=>?_;rw[h2,List.take_length,hp.mem_iff]
theorem IV{l:aU}{e:LeT}(h:∀x∈qY l e,0<=x):asc ((qY l e).filter fun x=>decide (0<x/\x∉([]:List Int)))=fD l e:=by
 unfold fD
 rw[show(qY l e).filter (fun x=>decide (0<x/\x∉([]:List Int)))=(qY l e).filter (fun x=>decide (x≠0)) from List.filter_congr fun x hx=>by
  have:=h x hx
  exact decide_eq_decide.2 ⟨fun h=>by omega,fun h=>⟨by omega,by simp⟩⟩]
theorem BZ{l:aU}{e:LeT}{x:Int}:x∈fD l e↔x∈qY l e/\x≠0:=by
 unfold fD;rw[rM,List.mem_filter,decide_eq_true_iff]
/-! ### the program's ascending lists -/
theorem nR(p:Int→Bool)(xs:List Int)(x:Int):asc ((xs++[x]).filter p)=if p x=true then ins (asc (xs.filter p)) x else asc (xs.filter p):=by
 rw[List.filter_append]
 split
 ·rename_i h;rw[List.filter_cons_of_pos h,List.filter_nil,rO]
 rename_i h;rw[List.filter_cons_of_neg h,List.filter_nil,List.append_nil]
/-! ### placements -/
structure dA(d:Dev)(kinds place:List Int):Prop where
 dev:bQ d=true
 len:kinds.length<=64
 same:place.length=kinds.length
 tile:∀k:Nat,k<kinds.length→ai d (place[k]?.getD 0)=true/\ah d (place[k]?.getD 0)=aW (kinds[k]?.getD 0)
 once:place.Nodup
/-! ### connections -/
def iA(n:Int)(p:aL):Prop:=(0<=p.block/\p.block<n)/\0<=p.pin/\p.pin<=4
structure nD(n:Int)(c:Cn):Prop where
 len:1<=c.sinks.length/\c.sinks.length<=120
 src:iA n c.src
 sinks:∀p∈c.sinks,iA n p
structure dW(n:Int)(cs:List Cn):Prop where
 blocks:0<=n/\n<=64
 len:cs.length<=100
 fit:∀c∈cs,nD n c
/-! ### routes -/
def qB(d:Dev)(t p:Int):Int:=if ai d t=true/\0<=p/\p<jK (ah d t)then t*ag d+p else -1
def dN(d:Dev)(place:List Int)(c:Cn):Int:=if 0<=c.src.block/\c.src.block<(place.length:Int)then fB d (place[c.src.block.toNat]?.getD 0) c.src.pin else -1
def df(d:Dev)(place:List Int)(p:aL):Int:=if 0<=p.block/\p.block<(place.length:Int)then qB d (place[p.block.toNat]?.getD 0) p.pin else -1
def eZ(d:Dev)(place:List Int)(c:Cn):Prop:=∀p∈c.sinks,0<=df d place p
def eD(d:Dev)(place:List Int)(c:Cn):List Int:=c.sinks.map (df d place)
structure IW(d:Dev)(source:Int)(sinks:List Int)(r:Rou):Prop where
 len:1<=r.nodes.length/\(r.nodes.length:Int)<=fE d
 dev:bQ d=true
 same:r.from_.length=r.nodes.length
 node:∀n∈r.nodes,ed d n=true
 once:r.nodes.Nodup
 root:r.nodes[0]?.getD 0=source/\r.from_[0]?.getD 0=0/\(source%ag d=5∨source%ag d=6)
 step:∀i:Nat,0<i→i<r.nodes.length→(0<=r.from_[i]?.getD 0/\r.from_[i]?.getD 0<(i:Int))/\r.nodes[(r.from_[i]?.getD 0).toNat]?.getD 0∈nX d (r.nodes[i]?.getD 0)
 pins:∀n∈r.nodes,n%ag d<5→n∈sinks
 sinks:∀n∈sinks,n∈r.nodes
/-! ### layouts -/
structure Lay where
 net:aU
 blocks:List Blk
 conns:List Cn
 place:List Int
 routes:List Rou
/-! ### the steps of the loops -/
theorem mM{xs:List Int}{x:Int}:(xs++[x]).Nodup↔xs.Nodup/\x∉xs:=by
 rw[List.nodup_append]
 constructor
 ·rintro⟨h1,_,h3⟩;exact⟨h1,fun hx=>h3 x hx x (by simp) rfl⟩
 rintro⟨h1,h2⟩;exact⟨h1,by simp,fun a g b hb e=>h2 (by rw[List.mem_singleton.1 hb]at e;exact e ▸ g)⟩
theorem kS{α:Type}(f:Nat→List α)(k:Nat):(List.range (k+1)).flatMap f=(List.range k).flatMap f++f k:=by
 rw[List.range_succ,List.flatMap_append,List.flatMap_singleton]
theorem vB(n:Int)(j:Nat)(g:List Int)(q:Nat):nC n j g (q+1)=nC n j g q++if g[q]?.getD 0=n then[⟨(j:Int),(q:Int)⟩]else[]:=by
 unfold nC;rw[kS]
theorem rF(g:List (List Int))(n:Int)(j:Nat):gQ g n (j+1)=gQ g n j++nC n j (g[j]?.getD []) (g[j]?.getD []).length:=by
 unfold gQ;rw[kS]
theorem vC(g:List (List Int))(i:Nat)(os:List Int)(p:Nat):iV g i os (p+1)=iV g i os p++xm g i p (os[p]?.getD 0):=by
 unfold iV;rw[kS]
theorem sU(l:aU)(bs:List Blk)(i:Nat):kX l bs (i+1)=kX l bs i++iV (bs.map (iU l)) i (j4 l (bs[i]?.getD Blk.zero)) (j4 l (bs[i]?.getD Blk.zero)).length:=by
 unfold kX;rw[kS]
theorem DU(n:Int)(j:Nat)(g:List Int)(q:Nat):(nC n j g q).length<=q:=by
 induction q with
 | zero=>simp[nC]
 | succ q ih=>rw[vB,List.length_append];split <;> simp <;> omega
theorem zS(g:List (List Int))(n:Int)(j m:Nat)(h:∀q∈g,q.length<=m):(gQ g n j).length<=j*m:=by
 induction j with
 | zero=>simp[gQ]
 | succ j ih =>
  have h1:=DU n j (g[j]?.getD []) (g[j]?.getD []).length
  have h2:(g[j]?.getD []).length<=m:=by
   rcases Nat.lt_or_ge j g.length with hj|hj
   ·rw[List.getElem?_eq_getElem hj];exact h _ (List.getElem_mem hj)
   rw[List.getElem?_eq_none hj];simp
  rw[rF,List.length_append,Nat.succ_mul];omega
end Go.Proofs.YtofihjoanjkdmaaGreat
