/- Sets of numbers as maps to truths that the call owns. -/
import Derived.Test.YtofihjoanjkdmaaGreatLayG4
import Derived.Test.YtofihjoanjkdmaaGreatNmB
import Derived.Test.YtofihjoanjkdmaaGreatRtS
namespace Go.Proofs.YtofihjoanjkdmaaGreat
set_option maxRecDepth 100000
open Go.RowKit
theorem vS{v:Value}{x:Bool}{p:List MemPlace}(h:plainElem (H:=Unit) Tryz.prog 4 v=some (.lit (.bool x),p)):v=.bool x:=by
 unfold plainElem at h;rw[Tryz.underlying4]at h
 cases v <;> simp at h
 rename_i y;rw[h.1]
def qI(w:World)(b:Nat)(l:List Int):Prop :=
 ∃D:DataW Unit,w.ownsMap Tryz.prog 3 (plainElem Tryz.prog 4) b l.length D/\∀x:Int,D.atKey (.int .i64 x) (.lit (.bool false))=.lit (.bool (decide (x∈l)))
theorem qI.made(w:World):qI (w.alloc (.map #[] 0)) w.heap.size []:=⟨.map [],World.ownsMap_made w _ _ _,fun x=>by simp;rfl⟩
theorem qI.lt{w:World}{b:Nat}{l:List Int}(h:qI w b l):b<w.heap.size:=by
 obtain⟨D,h1,_⟩:=h;exact h1.lt
theorem qI.keep{w w':World}{b:Nat}{l:List Int}(h:qI w b l)(hk:w'.heap[b]?=w.heap[b]?):qI w' b l:=by
 obtain⟨D,⟨es,g,hb,hr⟩,h2⟩:=h;exact⟨D,⟨es,g,hk.trans hb,hr⟩,h2⟩
theorem qI.below{w w':World}{b:Nat}{l:List Int}(h:qI w b l)(hb:Below w.heap.size w w'):qI w' b l:=h.keep (hb.block b h.lt)
theorem OZ(w:World):(zeroValue 4).run Tryz.prog w=.ok (.bool false) w:=by kernel_rfl
theorem qI.look{w:World}{b:Nat}{l:List Int}(h:qI w b l){key:Int}(hk:vw key):(Instr.lookup 171 (.map (some b)) (.int .i64 key) false).run Tryz.prog w=.ok (.bool (decide (key∈l))) w:=by
 obtain⟨D,h1,h2⟩:=h;obtain⟨v,j,hr,g⟩:=h1.lookup La Tryz.underlying171 (OZ w) (plainElem_bool Tryz.underlying4 false) (Nn hk);rw[h2 key]at g;rw[hr,vS g]
abbrev wS(b:Nat)(l:List Int):Pc := .own b fun w=>qI w b l
theorem aD.setPut{W w:World}{g:List Pc}(S:aD W w g)(i:Nat){b:Nat}{l:List Int}(hi:g[i]?=some (wS b l))(hn:l.length<100000)(key:Int)(hk:vw key) :
  ∃w',(Instr.mapUpdate 171 (.map (some b)) (.int .i64 key) (.bool true)).run Tryz.prog w=.ok () w'/\aD W w' (g.set i (wS b (l++[key])))/\w.heap.size<=w'.heap.size:=by
 obtain⟨⟨D,h1,h2⟩,_,_⟩:=S.own i hi;obtain⟨w',u,z,q⟩:=h1.store La Tryz.underlying171 (by unfold maxLen;omega) (Nn hk) (plainElem_bool Tryz.underlying4 true);refine⟨w',u,S.own_upd i hi q.grown ⟨_,by rw[List.length_append];exact z,fun x=>?_⟩ (fun B G e h=>h.keep e),q.grown.size⟩;have hm:=World.ownsMap.isMap h1;by_cases e:x=key
 ·subst e;rw[Maps.atKey_put_same hm (by trivial)];simp
 have j:(Lit.int .i64 x) ≠ .int .i64 key:=fun h=>e (by injection h);rw[Maps.atKey_put_other j,h2 x];simp[e]
theorem aD.pushSet{W w:World}{g:List Pc}(h:aD W w g):aD W (w.alloc (.map #[] 0)) (g++[wS w.heap.size []]) :=
 h.push (aB (Below.refl _ _) _) (G:=[w.heap.size]) ⟨rfl,by simp,qI.made w,fun _ _ e h=>h.keep e⟩ (by simp) (by simp)
theorem aD.look{W w:World}{g:List Pc}(S:aD W w g)(i:Nat){b:Nat}{l:List Int}(hi:g[i]?=some (wS b l)){key:Int}(hk:vw key):(Instr.lookup 171 (.map (some b)) (.int .i64 key) false).run Tryz.prog w=.ok (.bool (decide (key∈l))) w:=(S.own i hi).1.look hk
theorem BJ{ops:Array Oper}{rest:List Oper}{o:Oper}{a:Act}{Q:Exit→Act→World→Prop}{w W:World}(hg:o.guard=none)(z x v:Operand)(j:o.op=Op.mapUpdate 171 z x v)
  (q:List Pc) (S:aD W w q) (i b:Nat) (l:List Int) (hi:q[i]?=some (wS b l)) (hm:a.eval z=.map (some b)) (hn:l.length<100000) (key:Int) (hx:a.eval x=.int .i64 key) (G:a.eval v=.bool true)
  (hk:vw key) (h:∀w',aD W w' (q.set i (wS b (l++[key])))→w.heap.size<=w'.heap.size→wpList Tryz.prog ops Q rest (a.put o.dst undef) w'):wpList Tryz.prog ops Q (o::rest) a w:=by
 refine wpList_plain hg fun H u=>?_;obtain⟨w',g,B,D⟩:=S.setPut i hi hn key hk;unfold Oper.wp;simp[execOp,j,hm,hx,G,g,Result.andThen];exact u _ _ (h w' B D)
theorem Kb(d:Dev)(n:Int):(nX d n).length<=26:=by
 unfold nX
 split
 ·rename_i h;have g:=h.1;unfold ed at g;rw[Bool.and_eq_true]at g;have D:=ak (kT g.1).1;have h1:=iK (jV d (n/ag d) (n%ag d))
  have q:∀(r:Int) (k:Nat),(iy d (n/ag d) (n%ag d) r (k:Int) (dC (k:Int)).toNat).length<=1+k%2:=by
   intro r k;have z:(dC (k:Int)).toNat=1+k%2:=by unfold dC;omega
   have j:∀s:Int,(nJ d (n/ag d) (n%ag d) r (k:Int) s).length<=1:=by
    intro s;unfold nJ nV;split <;> (try split) <;> simp
   have:∀s:Nat,(iy d (n/ag d) (n%ag d) r (k:Int) s).length<=s:=by
    intro s
    induction s with
    | zero=>simp[iy]
    | succ s ih=>rw[pK,List.length_append];have:=j ((s:Int)+1);omega
   have:=this (dC (k:Int)).toNat;omega
  have u:∀(r:Int) (k:Nat),(jI d (n/ag d) (n%ag d) r k).length<=k+k/2:=by
   intro r k
   induction k with
   | zero=>simp[jI]
   | succ k ih=>rw[pM,List.length_append];have:=q r k;omega
  have hA:∀r:Nat,(iO d (n/ag d) (n%ag d) r).length<=6*r:=by
   intro r
   induction r with
   | zero=>simp[iO]
   | succ r ih=>rw[pO,List.length_append];have:=u (r:Int) d.T.toNat;omega
  have:=hA 4;have ho:(jH d (n/ag d)).length<=2:=by unfold jH;split <;> simp
  have B:(jV d (n/ag d) (n%ag d)).length<=26:=by
   unfold jV;rw[List.length_append]
   split
   ·omega
   simp;omega
  omega
 simp
/-! ### a tile's node -/
theorem IW.bd{d:Dev}{src:Int}{ks:List Int}{r:Rou}(h:IW d src ks r):r.nodes.length<=828:=by
 have h1:=h.len.2;have h2:=jg h.dev;omega
end Go.Proofs.YtofihjoanjkdmaaGreat
