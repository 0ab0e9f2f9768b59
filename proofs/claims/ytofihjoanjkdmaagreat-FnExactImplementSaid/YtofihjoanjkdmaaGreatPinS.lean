/- Storing a pin in a row of pins among the pieces. -/
import Derived.Test.YtofihjoanjkdmaaGreatPinC
namespace Go.Proofs.YtofihjoanjkdmaaGreat
set_option maxRecDepth 100000
open Go.RowKit
theorem FW(o:List aL){i:Nat}(h:i<o.length)(p:aL):((o.flatMap aL.cells).set (i*2) (.int p.block)).set (i*2+1) (.int p.pin)=(o.set i p).flatMap aL.cells:=by
 have hx:o[i]?=some (o[i]?.getD aL.zero):=getD_some _ h;have h1:=qo (f:=aL.cells) (s:=2) aL.cells_length (xs:=o) (k:=i) (j:=0) (x:=o[i]?.getD aL.zero) (y:=⟨p.block,(o[i]?.getD aL.zero).pin⟩) (c := .int p.block) hx (by omega) rfl;have g:(o.set i ⟨p.block,(o[i]?.getD aL.zero).pin⟩)[i]?=some ⟨p.block,(o[i]?.getD aL.zero).pin⟩:=by rw[List.getElem?_set_self h]
 have h2:=qo (f:=aL.cells) (s:=2) aL.cells_length (xs:=o.set i ⟨p.block,(o[i]?.getD aL.zero).pin⟩) (k:=i) (j:=1) (x:=⟨p.block,(o[i]?.getD aL.zero).pin⟩) (y:=p) (c := .int p.pin) g (by omega) rfl;rw[Nat.add_zero]at h1;rw[h1,h2,List.set_set]
theorem aD.setPin{W w:World}{u:List Pc}(S:aD W w u)(j:Nat){n c i:Nat}{A:Oh}{o:List aL}(hj:u[j]?=some (.cel (aZ o) (.slice A n c)))(hi:i<o.length) :
  ∃g,A=some ⟨g,0,none⟩/\g<w.heap.size/\w.cell? ⟨g,i*2,none⟩=some (.int .i64 (o[i]?.getD aL.zero).block)/\w.cell? ⟨g,i*2+1,none⟩=some (.int .i64 (o[i]?.getD aL.zero).pin)/\w.frozen? ⟨g,i*2,none⟩=false/\w.frozen? ⟨g,i*2+1,none⟩=false /\
   ∀p:aL,aD W ((w.setCell ⟨g,i*2,none⟩ (.int .i64 p.block)).setCell ⟨g,i*2+1,none⟩ (.int .i64 p.pin)) (u.set j (.cel (aZ (o.set i p)) (.slice A n c))):=by
 have hx:o[i]?=some (o[i]?.getD aL.zero):=getD_some _ hi;have G:(o.flatMap aL.cells)[i*2]?=some (.int (o[i]?.getD aL.zero).block):=by have:=pY (f:=aL.cells) (s:=2) aL.cells_length hx (j:=0) (by omega);rw[Nat.add_zero]at this;exact this
 have e1:(o.flatMap aL.cells)[i*2+1]?=some (.int (o[i]?.getD aL.zero).pin):=pY (f:=aL.cells) (s:=2) aL.cells_length hx (j:=1) (by omega);have Q:=hj;unfold aZ at hj;obtain⟨g,hA,h2,h3,H,K,U⟩:=S.num j hj G;obtain⟨I,hA',_,_,z,D,_⟩:=S.num j hj e1;have hg:g=I:=by rw[hA]at hA';injection hA' with h;injection h
 subst hg;have B:=(List.getElem?_eq_some_iff.1 hj).1;refine⟨g,hA,h3,H,z,K,D,fun p=>?_⟩;have k1:=U p.block;have k2:=k1.num j (i:=i*2+1) (x:=(o[i]?.getD aL.zero).pin) (by rw[List.getElem?_set_self B]) (by rw[List.getElem?_set_ne (by omega)];exact e1);obtain⟨R,q,_,_,_,_,J⟩:=k2;have hg:g=R:=by rw[hA]at q;injection q with h;injection h
 subst hg;have k3:=J p.pin;rw[List.set_set,FW o hi p]at k3;exact k3
theorem uF(o:List aL)(a b:Int):aZ (o++[⟨a,b⟩])=.row 100 2 (o.flatMap aL.cells++[.int a,.int b]):=by unfold aZ;rw[List.flatMap_append,List.flatMap_singleton];rfl
end Go.Proofs.YtofihjoanjkdmaaGreat
