/- The delays of a layout: plain. -/
import Derived.Test.YtofihjoanjkdmaaGreatLayDQ
namespace Go.Proofs.YtofihjoanjkdmaaGreat
set_option maxRecDepth 100000
open Go.RowKit
structure lw where
 luts:List (List Int)
 seqs:List (List Int)
def dV (g:List (List Int)) (m:Nat) (ys:List Int):List (List Int):=g.set m (g[m]?.getD []++ys)
theorem jg (g:List (List Int)) (m:Nat) (ys:List Int):(dV g m ys).length=g.length:=List.length_set
theorem qW (g:List (List Int)) (m:Nat):dV g m []=g:=by
 unfold dV
 rw [List.append_nil]
 refine List.ext_getElem? fun i=>?_
 rw [List.getElem?_set]
 split
 ·rename_i e
  subst e
  split
  ·rename_i h;rw [List.getElem?_eq_getElem h];rfl
  rename_i h;rw [List.getElem?_eq_none (by omega)]
 rfl
theorem DU {g:List (List Int)} {m:Nat} {ys:List Int} (h:m<g.length):(dV g m ys)[m]?.getD []=g[m]?.getD []++ys:=by
 unfold dV
 rw [List.getElem?_set_self h]
 rfl
theorem pR {g:List (List Int)} {m:Nat} {ys:List Int} (h:m<g.length) (y:Int):(dV g m ys).set m ((dV g m ys)[m]?.getD []++[y])=dV g m (ys++[y]):=by
 rw [DU h]
 unfold dV
 rw [List.set_set,List.append_assoc]
noncomputable def ramW (d:Dev) (x:Lay) (k it j:Nat):Int:=if 0<(x.net.seqs[it]?.getD Sq.zero).ins[j]?.getD 0 then min 100 (sinkD d x ⟨(k:Int),(j:Int)⟩) else 0
noncomputable def rams (d:Dev) (x:Lay) (k it j:Nat):List Int:=(List.range j).map fun (i:Nat)=>ramW d x k it i
theorem wQ (d:Dev) (x:Lay) (k it j:Nat):rams d x k it (j+1)=rams d x k it j++[ramW d x k it j]:=by simp [rams,List.range_succ]
theorem qL (d:Dev) (x:Lay) (k it j:Nat):(rams d x k it j).length=j:=by simp [rams]
noncomputable def lutTo (d:Dev) (x:Lay) (k m j:Nat):List Int:=((x.net.luts[m]?.getD Lt.zero).ins.take j).map (inpD d x k)
theorem uY (d:Dev) (x:Lay) (k m:Nat) {j:Nat} (h:j<(x.net.luts[m]?.getD Lt.zero).ins.length):lutTo d x k m (j+1)=lutTo d x k m j++[inpD d x k ((x.net.luts[m]?.getD Lt.zero).ins[j]?.getD 0)]:=by
 unfold lutTo
 rw [bN (z:=0) h,List.map_append]
 rfl
noncomputable def lutW (d:Dev) (x:Lay) (k m:Nat):List Int:=(x.net.luts[m]?.getD Lt.zero).ins.map (inpD d x k)
theorem wS (d:Dev) (x:Lay) (k m:Nat) {j:Nat} (h:j=(x.net.luts[m]?.getD Lt.zero).ins.length):lutTo d x k m j=lutW d x k m:=by
 unfold lutTo lutW
 rw [h,List.take_length]
noncomputable def ffW (d:Dev) (x:Lay) (k:Nat) (e:LeT):Int:=if 0<=e.lut then 0 else inpD d x k ((x.net.seqs[e.ff.toNat]?.getD Sq.zero).ins[0]?.getD 0)
noncomputable def leS (d:Dev) (x:Lay) (k:Nat) (e:LeT) (D:lw):lw :=
 ⟨if 0<=e.lut then dV D.luts e.lut.toNat (lutW d x k e.lut.toNat) else D.luts,if 0<=e.ff then D.seqs.set e.ff.toNat [ffW d x k e] else D.seqs⟩
noncomputable def ramS (d:Dev) (x:Lay) (k:Nat) (b:Blk) (D:lw):lw:=if b.kind=2 then ⟨D.luts,dV D.seqs b.item.toNat (rams d x k b.item.toNat 4)⟩ else D
noncomputable def lesTo (d:Dev) (x:Lay) (k:Nat) (es:List LeT) (D:lw) (q:Nat):lw:=(es.take q).foldl (fun D e=>leS d x k e D) D
theorem rA (d:Dev) (x:Lay) (k:Nat) {es:List LeT} (D:lw) {q:Nat} (h:q<es.length):lesTo d x k es D (q+1)=leS d x k (es[q]?.getD LeT.zero) (lesTo d x k es D q):=by
 unfold lesTo
 rw [bN (z:=LeT.zero) h,List.foldl_append]
 rfl
noncomputable def blkS (d:Dev) (x:Lay) (k:Nat) (D:lw):lw:=lesTo d x k (jo x k).les (ramS d x k (jo x k) D) (jo x k).les.length
noncomputable def delTo (d:Dev) (x:Lay):Nat→lw
 | 0=>⟨List.replicate x.net.luts.length [],List.replicate x.net.seqs.length []⟩
 | k+1=>blkS d x k (delTo d x k)
noncomputable def delays (d:Dev) (x:Lay):lw:=delTo d x x.blocks.length
noncomputable def delD (d:Dev) (x:Lay):lw:=@ite lw (iQ d x) (Classical.propDecidable _) (delays d x) ⟨[],[]⟩
structure qM (x:Lay) (D:lw) (n:Nat):Prop where
 luts:∀m:Nat,(D.luts[m]?.getD []).length<=n
 seqs:∀m:Nat,(D.seqs[m]?.getD []).length<=n
 ln:D.luts.length=x.net.luts.length
 sn:D.seqs.length=x.net.seqs.length
theorem uZ {g:List (List Int)} {n:Nat} (h:∀m:Nat,(g[m]?.getD []).length<=n) (m:Nat) {r:List Int} (hr:r.length<=n):∀i:Nat,((g.set m r)[i]?.getD []).length<=n:=fun i=>by
 rw [List.getElem?_set]
 split
 ·split
  ·simpa using hr
  simp
 exact h i
theorem qM.more {x:Lay} {D:lw} {n m:Nat} (h:qM x D n) (g:n<=m):qM x D m:=⟨fun i=>Nat.le_trans (h.luts i) g,fun i=>Nat.le_trans (h.seqs i) g,h.ln,h.sn⟩
theorem oV {g:List (List Int)} {n:Nat} (h:∀m:Nat,(g[m]?.getD []).length<=n) (m:Nat) {ys:List Int} (j:ys.length<=4):∀i:Nat,((dV g m ys)[i]?.getD []).length<=n+4 :=
 uZ (fun i=>Nat.le_trans (h i) (by omega)) m (by rw [List.length_append];have:=h m;omega)
theorem ES {d:Dev} {x:Lay} (h:bA x.net) (k m:Nat):(lutW d x k m).length<=4:=by
 unfold lutW
 rw [List.length_map]
 rcases Nat.lt_or_ge m x.net.luts.length with h1|h1
 ·exact (h.luts m h1).1
 rw [List.getElem?_eq_none h1]
 simp [Lt.zero]
theorem FF {d:Dev} {x:Lay} (h:bA x.net) {D:lw} {n:Nat} (g:qM x D n) (k:Nat) (e:LeT):qM x (leS d x k e D) (n+4):=by
 unfold leS
 refine ⟨?_,?_,?_,?_⟩
 ·intro i
  show ((if 0<=e.lut then _ else _:List (List Int))[i]?.getD []).length<=_
  split
  ·exact oV g.luts _ (ES h k _) i
  exact Nat.le_trans (g.luts i) (by omega)
 ·intro i
  show ((if 0<=e.ff then _ else _:List (List Int))[i]?.getD []).length<=_
  split
  ·exact uZ (n:=n+4) (fun i=>Nat.le_trans (g.seqs i) (by omega)) _ (by simp) i
  exact Nat.le_trans (g.seqs i) (by omega)
 ·show (if 0<=e.lut then _ else _:List (List Int)).length=_
  split
  ·rw [jg];exact g.ln
  exact g.ln
 show (if 0<=e.ff then _ else _:List (List Int)).length=_
 split
 ·rw [List.length_set];exact g.sn
 exact g.sn
theorem ET {d:Dev} {x:Lay} {D:lw} {n:Nat} (g:qM x D n) (k:Nat) (b:Blk):qM x (ramS d x k b D) (n+4):=by
 unfold ramS
 split
 ·exact ⟨fun i=>Nat.le_trans (g.luts i) (by omega),oV g.seqs _ (by rw [qL];exact Nat.le_refl _),g.ln,by show (dV _ _ _).length=_;rw [jg];exact g.sn⟩
 exact g.more (by omega)
theorem rY {d:Dev} {x:Lay} (h:bA x.net) {D:lw} {n:Nat} (g:qM x D n) (k:Nat) (es:List LeT):∀q:Nat,q<=es.length→qM x (lesTo d x k es D q) (n+4 * q)
 | 0,_=>by unfold lesTo;rw [List.take_zero];exact g
 | q+1,hq=>by
  rw [rA d x k D (by omega)]
  exact (FF h (rY h g k es q (by omega)) k _).more (by omega)
theorem lW {d:Dev} {x:Lay} (h:fQ x.net x.blocks):∀k:Nat,k<=x.blocks.length→qM x (delTo d x k) (16 * k)
 | 0,_=>⟨fun i=>by simp only [delTo];rw [List.getElem?_replicate];split <;> simp,fun i=>by simp only [delTo];rw [List.getElem?_replicate];split <;> simp,List.length_replicate,List.length_replicate⟩
 | k+1,hk=>by
  have h1:=lW (d:=d) h k (by omega)
  have h2:(jo x k).les.length<=2:=by unfold jo;rw [List.getElem?_eq_getElem (by omega)];exact kH (h.fit _ (List.getElem_mem _))
  exact (rY h.net (ET h1 k (jo x k)) k _ _ (Nat.le_refl _)).more (by omega)
end Go.Proofs.YtofihjoanjkdmaaGreat
