/- Marking nested data, cell by cell. -/
import Derived.Test.YtofihjoanjkdmaaGreatOwn
namespace Go.Proofs.YtofihjoanjkdmaaGreat
set_option maxRecDepth 100000
open Go.RowKit
theorem gW {w:World} {e s n c:Nat} {A:Option Addr} {cs:List Cel} {F:List Nat} (h:bO w (.row e s cs) (.slice A n c) F):cs.length=n * s:=by
 rw [dV] at h
 obtain ⟨u,q,j,vs,F',g,ho,_,hl⟩:=h
 injection g with _ hn _
 subst hn
 rw [←hl.len]
 exact ho.1
theorem dS {α:Type} {cells:α→List Cel} {s:Nat} (hf:∀x,(cells x).length=s) {z:α}:∀{xs:List α} {i r:Nat},i<xs.length→r<s→(xs.flatMap cells)[i * s+r]?=(cells (xs[i]?.getD z))[r]?
 | [],i,r,hi,_=>by simp at hi
 | x :: xs,0,r,_,hr=>by rw [List.flatMap_cons,Nat.zero_mul,Nat.zero_add,List.getElem?_append_left (by rw [hf];exact hr)];rfl
 | x :: xs,i+1,r,hi,hr=>by
  rw [List.flatMap_cons,List.getElem?_append_right (by rw [hf,Nat.succ_mul];omega),hf,show (i+1) * s+r - s=i * s+r by rw [Nat.succ_mul];omega,dS hf (by simpa using hi) hr]
  rfl
theorem lZ {w:World} {g p q:Nat} {v:Value} (h:p≠q):(w.setCell ⟨g,p,none⟩ v).cell? ⟨g,q,none⟩=w.cell? ⟨g,q,none⟩:=World.cell?_setCell_other _ _ _ _ (fun e=>h (by injection e))
structure Mkd (F:List Nat) (e s n c g:Nat) (k0:Int) (cs:List Cel) (w0 w:World) (j:Nat):Prop where
 own:bO w (.row e s (mkP k0 cs j)) (.slice (some ⟨g,0,none⟩) n c) F
 only:gp F w0 w
section
variable {F:List Nat} {e s n c g j:Nat} {k0:Int} {cs:List Cel} {w0 w:World}
theorem EU {q:Nat} (hq:j<=q) (hl:j<=cs.length):(mkP k0 cs j)[q]?=cs[q]?:=by
 have h1:(mkL k0 (cs.take j)).length=j:=by rw [rJ];simp;omega
 unfold mkP
 rw [List.getElem?_append_right (by omega),h1,List.getElem?_drop]
 congr 1
 omega
theorem Mkd.get (h:Mkd F e s n c g k0 cs w0 w j) (z:F.Nodup) {q:Nat} (hq:j<=q) {x:Int} (hc:cs[q]?=some (.int x)):w.cell? ⟨g,q,none⟩=some (.int .i64 x)/\w.frozen? ⟨g,q,none⟩=false/\g<w.heap.size:=by
 have hl:=(List.getElem?_eq_some_iff.1 hc).1
 obtain ⟨B,hA,u,h1,h2,-⟩:=h.own.num z ((EU hq (by omega)).trans hc)
 injection hA with hA
 injection hA with hA
 subst hA
 exact ⟨h1,h2,h.own.lt _ u⟩
theorem Mkd.put (h:Mkd F e s n c g k0 cs w0 w j) (u:F.Nodup) {x:Int} (hc:cs[j]?=some (.int x)) {y:Int} (z:y=k0+(dE (cs.take j):Int)):Mkd F e s n c g k0 cs w0 (w.setCell ⟨g,j,none⟩ (.int .i64 y)) (j+1):=by
 obtain ⟨B,hA,q,-,-,h3⟩:=h.own.num u (Be hc)
 injection hA with hA
 injection hA with hA
 subst hA
 refine ⟨?_,h.only.trans (iU q _)⟩
 rw [←Bf hc,z]
 exact h3 _
theorem Mkd.row (h:Mkd F e s n c g k0 cs w0 w j) (B:F.Nodup) {e' q:Nat} {ds:List Cel} (hc:cs[j]?=some (.row e' q ds)):∃S m p G,w.cell? ⟨g,j,none⟩=some (.slice S m p)/\g<w.heap.size/\bO w (.row e' q ds) (.slice S m p) G/\G.Nodup /\
  ∀(k:Int) (w':World),k=k0+(dE (cs.take j):Int)→bO w' (mkC k (.row e' q ds)) (.slice S m p) G→gp G w w'→Mkd F e s n c g k0 cs w0 w' (j+1):=by
 obtain ⟨D,v,G,hA,u,h1,h2,h3,-,h5,z⟩:=h.own.child B (Be hc)
 injection hA with hA
 injection hA with hA
 subst hA
 obtain ⟨S,m,p,vs,F',rfl,-⟩:=dV.1 h2
 refine ⟨S,m,p,G,h1,h.own.lt _ u,h2,h3,fun k w' hk ho hg=>⟨?_,h.only.trans (hg.more h5)⟩⟩
 rw [←Bf hc,←hk]
 exact z w' _ ho hg
theorem lg {A:Option Addr} (h:bO w (.row e s cs) (.slice A n c) F) (hj:0<cs.length):∃g,A=some ⟨g,0,none⟩/\Mkd F e s n c g k0 cs w w 0:=by
 obtain ⟨g,j,v,u,q,F2,rfl,-⟩:=h.cell hj
 exact ⟨g,rfl,by rw [Dr];exact h,gp.refl _ _⟩
theorem Mkd.done (h:Mkd F e s n c g k0 cs w0 w j) (hj:cs.length<=j):bO w (mkC k0 (.row e s cs)) (.slice (some ⟨g,0,none⟩) n c) F/\gp F w0 w:=by
 refine ⟨?_,h.only⟩
 rw [mkC,←Dt k0 cs hj]
 exact h.own
end
end Go.Proofs.YtofihjoanjkdmaaGreat
