/- Bounds of blocks' pins and connections; counting parts. -/
import Derived.Test.YtofihjoanjkdmaaGreatLayP2
namespace Go.Proofs.YtofihjoanjkdmaaGreat
set_option maxRecDepth 100000
open Go.RowKit
theorem qU{l:aU}(hn:bJ l){e:LeT}(h:eB l e):(qY l e).length<=4/\∀x∈qY l e,0<=x/\x<(l.count:Int):=by
 unfold qY
 split
 ·rename_i h0;have h1:=h.lut.2;have h2:=hn.luts e.lut.toNat (by omega);unfold aU.lut;refine⟨h2.1,fun x hx=>?_⟩;have h3:=h2.2.2 x hx;unfold aU.count;omega
 rename_i h0;have h1:=h.ff;have j:=h.lut.1;have g:=h.one;have h2:=hn.seqs e.ff.toNat (by omega);unfold aU.sq;exact⟨by rcases h2.1 with h|h <;> omega,h2.2⟩
theorem oI{l:aU}(hn:bJ l){e:LeT}(h:eB l e):(fD l e).length<=4/\∀x∈fD l e,0<x/\x<(l.count:Int):=by
 obtain⟨h1,h2⟩:=qU hn h;refine⟨?_,fun x hx=>?_⟩
 ·unfold fD;have:=iK ((qY l e).filter fun x=>decide (x≠0));have:=List.length_filter_le (fun x=>decide (x≠0)) (qY l e);omega
 obtain⟨h3,g⟩:=BZ.1 hx;have:=h2 x h3;omega
theorem Jt{l:aU}(hn:bJ l){e:LeT}(h:eB l e):0<dM l e/\dM l e<(l.count:Int):=by
 have h1:=h.lut;have h2:=h.ff;have h3:=h.one;have g:=hn.inp;unfold dM aU.count aU.first
 split <;> omega
theorem yz{l:aU}(hn:bJ l){b:Blk}(h:ja l b):(iU l b).length<=5:=by
 obtain⟨hk,hb⟩:=h;unfold iU
 split
 ·simp
 split
 ·simp
 split
 ·rename_i h2
  rcases hk with h|h|h|h
  ·omega
  ·omega
  ·have h3:=hn.seqs b.item.toNat (by omega);unfold aU.sq
   rcases h3.1 with h|h <;> omega
  omega
 rcases hb with h|h
 ·exact h.2.2.2
 exfalso
 rcases hk with g|g|g|g <;> omega
theorem y8{l:aU}{b:Blk}(h:ja l b):(j4 l b).length<=2:=by
 obtain⟨_,hb⟩:=h;unfold j4 Nl
 split
 ·simp
 split
 ·simp
 split
 ·simp
 rw[List.length_map]
 rcases hb with h|h
 ·exact h.2.2.1.2
 rw[h.2.1];simp
theorem Cm(g:List (List Int))(i:Nat)(os:List Int)(p:Nat):(iV g i os p).length<=p:=by
 induction p with
 | zero=>simp[iV]
 | succ p ih=>rw[vC,List.length_append];unfold xm;split <;> simp <;> omega
theorem qL{l:aU}{bs:List Blk}(h:∀b∈bs,ja l b){i:Nat}(hi:i<=bs.length):(kX l bs i).length<=2*i:=by
 induction i with
 | zero=>simp[kX]
 | succ i ih =>
  have h1:=ih (by omega);have h2:=Cm (bs.map (iU l)) i (j4 l (bs[i]?.getD Blk.zero)) (j4 l (bs[i]?.getD Blk.zero)).length
  have h3:(j4 l (bs[i]?.getD Blk.zero)).length<=2:=by
   rw[List.getElem?_eq_getElem (show i<bs.length by omega),Option.getD_some];exact y8 (h _ (List.getElem_mem _))
  rw[sU,List.length_append];omega
theorem Kt{l:aU}(hn:bJ l){bs:List Blk}(h:∀b∈bs,ja l b)(n:Int)(j:Nat):(gQ (bs.map (iU l)) n j).length<=j*5 :=
 zS _ n j 5 fun g hp=>by
  obtain⟨b,hb,rfl⟩:=List.mem_map.1 hp;exact yz hn (h b hb)
/-! ### counting -/
theorem mr{m:Nat}{xs:List Int}:(∀k:Nat,k<m→(aK m xs)[k]?.getD 0=1)↔J2 m xs:=by
 unfold J2
 constructor
 ·intro h k hk;have:=h k hk;rw[jZ xs hk]at this;omega
 intro h k hk;rw[jZ xs hk,h k hk];rfl
theorem p8(k:Int)(bs:List Blk)(b:Blk):bH k (bs++[b])=bH k bs++if b.kind=k then[b.item]else[]:=by simp[bH]
def iI(es:List LeT):List Int:=es.flatMap fun e=>if 0<=e.lut then[e.lut]else[]
def jo(es:List LeT):List Int:=es.flatMap fun e=>if 0<=e.ff then[e.ff]else[]
theorem y9(es:List LeT)(e:LeT):iI (es++[e])=iI es++if 0<=e.lut then[e.lut]else[]:=by simp[iI]
theorem BO(es:List LeT)(e:LeT):jo (es++[e])=jo es++if 0<=e.ff then[e.ff]else[]:=by simp[jo]
theorem zA(bs:List Blk)(b:Blk):jF (bs++[b])=jF bs++iI b.les:=by simp[jF,iI]
theorem zB(bs:List Blk)(b:Blk):gm (bs++[b])=(gm bs++if b.kind=2 then[b.item]else[])++jo b.les:=by simp[gm,jo]
/-! ### placements -/
end Go.Proofs.YtofihjoanjkdmaaGreat
