/- Networks of look-up tables as nested memory. -/
import Derived.Deep.CutRange
import Derived.Deep.DeepCutAuto
import Derived.Test.YtofihjoanjkdmaaGreatLnB
import Derived.Test.YtofihjoanjkdmaaGreatSep
namespace Go.Proofs.YtofihjoanjkdmaaGreat
set_option maxRecDepth 100000
open Go.RowKit
/-! ### networks -/
def Lt.cells(l:Lt):List Cel:=[aI l.ins,.int l.mask]
def Sq.cells(s:Sq):List Cel:=[.int s.kind,.int s.init,aI s.ins]
def aj(g:List Lt):Cel := .row 96 2 (g.flatMap Lt.cells)
def aY(ss:List Sq):Cel := .row 91 3 (ss.flatMap Sq.cells)
theorem Lt.cells_length(l:Lt):l.cells.length=2:=rfl
theorem Sq.cells_length(s:Sq):s.cells.length=3:=rfl
theorem jM{α:Type}{f:α→List Cel}{s:Nat}(hf:∀x,(f x).length=s)(xs:List α):(xs.flatMap f).length=xs.length*s:=by rw[xf hf,Nat.mul_comm]
theorem pY{α:Type}{f:α→List Cel}{s:Nat}(hf:∀x,(f x).length=s){xs:List α}{k j:Nat}{x:α}(h:xs[k]?=some x)(hj:j<s):(xs.flatMap f)[k*s+j]?=(f x)[j]?:=by rw[Nat.mul_comm];exact zD hf h hj
theorem qo{α:Type}{f:α→List Cel}{s:Nat}(hf:∀x,(f x).length=s):∀{xs:List α} {k j:Nat} {x y:α} {c:Cel},xs[k]?=some x→j<s→f y=(f x).set j c→(xs.flatMap f).set (k*s+j) c=(xs.set k y).flatMap f
 | [],k,j,x,y,c,h,hj,g=>by simp at h
 | a::l,0,j,x,y,c,h,hj,g=>by
  simp at h;subst h
  rw[List.flatMap_cons,Nat.zero_mul,Nat.zero_add,List.set_append,if_pos (by rw[hf];exact hj),List.set_cons_zero,List.flatMap_cons,g]
 | a::l,k+1,j,x,y,c,h,hj,g=>by
  rw[List.flatMap_cons,List.set_append,if_neg (by rw[hf,Nat.succ_mul];omega),hf,show(k+1)*s+j-s=k*s+j by rw[Nat.succ_mul];omega,qo hf (by simpa using h) hj g,List.set_cons_succ,List.flatMap_cons]
theorem aD.consBlk{W w:World}{g:List Pc}(h:aD W w g)(cs:Array Value)(t:TypeId):aD W (w.alloc (.cells cs t)) (.blk w.heap.size cs t::g) :=
 h.cons (aB (Below.refl _ _) _) (G:=[w.heap.size]) ⟨rfl,by simp,aG _ _,fun j q e h=>e.trans h⟩ (by simp) (by simp)
theorem aD.setI{W w:World}{q:List Pc}(S:aD W w q)(j:Nat){n c i:Nat}{A:Oh}{xs:List Int}(hj:q[j]?=some (.cel (aI xs) (.slice A n c)))(hi:i<n) :
  ∃g,A=some ⟨g,0,none⟩/\W.heap.size<=g/\g<w.heap.size/\w.cell? ⟨g,i,none⟩=some (.int .i64 (xs[i]?.getD 0))/\w.frozen? ⟨g,i,none⟩=false /\
   ∀y:Int,aD W (w.setCell ⟨g,i,none⟩ (.int .i64 y)) (q.set j (.cel (aI (xs.set i y)) (.slice A n c))):=by
 have hl:=(S.ints j hj).1;have hx:xs[i]?=some (xs[i]?.getD 0):=by rw[List.getElem?_eq_getElem (by omega)];rfl
 obtain⟨g,h1,h2,h3,u,z,B⟩:=S.num j (i:=i) (x:=xs[i]?.getD 0) hj (by rw[List.getElem?_map,hx];rfl);exact⟨g,h1,h2,h3,u,z,fun y=>by have:=B y;rwa[←List.map_set]at this⟩
theorem aD.consLit{W w:World}{g:List Pc}(h:aD W w g)(y:Int):aD W (w.alloc (.cells #[.int .i64 y] 3)) (.cel (aI [y]) (.slice (some ⟨w.heap.size,0,none⟩) 1 1)::g) :=
 h.consOwn (aB (Below.refl _ _) _) (Own.made (cur:=#[.int .i64 y]) (aG w _) (Nat.le_refl _) (by unfold maxLen;omega) rfl rfl)
end Go.Proofs.YtofihjoanjkdmaaGreat
