/- Rows of truths that the call owns: sets of small numbers. -/
import Derived.Test.YtofihjoanjkdmaaGreatNmB
import Derived.Test.YtofihjoanjkdmaaGreatSep
namespace Go.Proofs.YtofihjoanjkdmaaGreat
set_option maxRecDepth 100000
open Go.RowKit
def yO(w:World)(b n:Nat)(l:List Int):Prop:=∃vs:Array Value,w.heap[b]?=some (.cells vs 4 (0,0))/\vs.size=n/\∀j,j<n→vs[j]?=some (.bool (decide ((j:Int)∈l)))
theorem yO.made(w:World)(n:Nat):yO (w.alloc (.cells (madeCells #[.bool false] n) 4)) w.heap.size n []:=by
 refine⟨_,aG w _,size_madeCells _ _,fun j hj=>?_⟩;rw[←Array.getElem?_toList,toList_madeCells_one,List.getElem?_replicate,if_pos hj];rfl
theorem yO.keep{w w':World}{b n:Nat}{l:List Int}(h:yO w b n l)(hk:w'.heap[b]?=w.heap[b]?):yO w' b n l:=by
 obtain⟨vs,h1,h2⟩:=h;exact⟨vs,hk.trans h1,h2⟩
theorem yO.cell{w:World}{b n j:Nat}{l:List Int}(h:yO w b n l)(hj:j<n):w.cell? ⟨b,j,none⟩=some (.bool (decide ((j:Int)∈l)))/\w.frozen? ⟨b,j,none⟩=false:=by
 obtain⟨vs,h1,_,h2⟩:=h;exact⟨aC h1 (h2 j hj),aN h1 j⟩
theorem yO.set{w:World}{b n k:Nat}{l:List Int}(h:yO w b n l)(hk:k<n):yO (w.setCell ⟨b,k,none⟩ (.bool true)) b n (l++[(k:Int)]):=by
 obtain⟨vs,h1,h2,h3⟩:=h;refine⟨_,nP h1 k _,by simp[h2],fun j hj=>?_⟩;rw[Array.getElem?_setIfInBounds];by_cases e:k=j
 ·subst e;rw[if_pos rfl,if_pos (by omega)];simp
 rw[if_neg e,h3 j hj];have:(j:Int)≠(k:Int):=by omega
 simp[this]
abbrev eO(b n:Nat)(l:List Int):Pc := .own b fun w=>yO w b n l
theorem J8(w:World)(b k:Nat)(v:Value):w.grownBy (w.setCell ⟨b,k,none⟩ v) (some b) :=
 ⟨rfl,rfl,rfl,by simp[World.setCell],fun i _ hn=>Below.heap_setCell w ⟨b,k,none⟩ v i fun e=>hn (by rw[e])⟩
theorem aD.pushRowB{W w:World}{g:List Pc}(h:aD W w g)(n:Nat):aD W (w.alloc (.cells (madeCells #[.bool false] n) 4)) (g++[eO w.heap.size n []]) :=
 h.push (aB (Below.refl _ _) _) (G:=[w.heap.size]) ⟨rfl,by simp,yO.made w n,fun _ _ e h=>h.keep e⟩ (by simp) (by simp)
theorem aD.truth{W w:World}{g:List Pc}(S:aD W w g)(i:Nat){b n k:Nat}{l:List Int}(hi:g[i]?=some (eO b n l))(hk:k<n) :
  w.cell? ⟨b,k,none⟩=some (.bool (decide ((k:Int)∈l)))/\w.frozen? ⟨b,k,none⟩=false/\(W.heap.size<=b/\b<w.heap.size)/\aD W (w.setCell ⟨b,k,none⟩ (.bool true)) (g.set i (eO b n (l++[(k:Int)]))):=by
 obtain⟨h1,h2,h3⟩:=S.own i hi;exact⟨(h1.cell hk).1,(h1.cell hk).2,⟨h2,h3⟩,S.own_upd i hi (J8 w b k _) (h1.set hk) (fun _ _ e h=>h.keep e)⟩
theorem J9:(Tryz.prog.info? 4).map (fun i=>(i.zero,i.size,i.bytes))=some (some (.bool false),1,1):=by kernel_rfl
theorem jc(n:Nat)(hn:n<=1048576)(w:World):(Instr.makeSlice 160 (.int .i64 (n:Int)) (.int .i64 (n:Int))).run Tryz.prog w=.ok (.slice (some ⟨w.heap.size,0,none⟩) n n) (w.alloc (.cells (madeCells #[.bool false] n) 4)):=by
 obtain⟨u,hi,q,g,j⟩:=info_parts J9;have h:=dQ (P:=Tryz.prog) 160 4 u _ Tryz.underlying160 hi q .i64 .i64 n n (Nat.le_refl _) (by rw[j];omega) (by omega) w;rw[g,Nat.mul_one]at h;exact h
end Go.Proofs.YtofihjoanjkdmaaGreat
