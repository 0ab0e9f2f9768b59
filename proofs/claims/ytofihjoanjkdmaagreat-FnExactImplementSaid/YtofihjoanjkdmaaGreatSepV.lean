/- Appending a list of plain cells to a row among the pieces; rows known by their values alone. -/
import Derived.Test.YtofihjoanjkdmaaGreatLayF7
import Derived.Test.YtofihjoanjkdmaaGreatSepL
namespace Go.Proofs.YtofihjoanjkdmaaGreat
set_option maxRecDepth 100000
open Go.RowKit
theorem lm{α β:Type}{f:α→List β}{s:Nat}(hf:∀x,(f x).length=s):∀xs:List α,(xs.flatMap f).length=xs.length*s
 | []=>by simp
 | x::xs=>by rw[List.flatMap_cons,List.length_append,hf,lm hf xs,List.length_cons,Nat.succ_mul,Nat.add_comm]
theorem wK{α β:Type}{f:α→List β}{s:Nat}(hf:∀x,(f x).length=s):∀{xs:List α} {k j:Nat} {x:α},xs[k]?=some x→j<s→(xs.flatMap f)[k*s+j]?=(f x)[j]?
 | [],k,j,x,h,_=>by simp at h
 | y::xs,0,j,x,h,hj=>by
  simp at h;subst h
  rw[List.flatMap_cons,List.getElem?_append_left (by rw[hf];omega),Nat.zero_mul,Nat.zero_add]
 | y::xs,k+1,j,x,h,hj=>by
  rw[List.flatMap_cons,List.getElem?_append_right (by rw[hf,Nat.succ_mul];omega),hf,show(k+1)*s+j-s=k*s+j by rw[Nat.succ_mul];omega];exact wK hf (by simpa using h) hj
section
variable {ops:Array Oper} {rest:List Oper} {o:Oper} {a:Act} {Q:Exit→Act→World→Prop} {K:Act→World→Prop} {E:Prop} {w W:World}
theorem Il(s x:Operand)(t e:TypeId)
  (ho:o.op=.call { callee := .builtin .append,args:=#[s,x],argTypes:=#[t,t] }) (q:TypeInfo) (z:Value) (size bytes:Nat) (ht:Tryz.prog.underlying t=some (.slice e)) (Z:Tryz.prog.info? e=some q) (R:q.zero=some z)
  (U:q.size=size) (ah:q.bytes=bytes) (ad:z.cells.size=size) (ag:0<size) (I:bytes<=64)
  (J:List Pc) (S:aD W w J) (i:Nat) (n c m d:Nat) (A B:Oh) (cs nc:List Cel) (H:List Value) (hi:J[i]?=some (.cel (.row e size cs) (.slice A n c))) (hs:a.eval s=.slice A n c) (hx:a.eval x=.slice B m d)
  (hr:∃b f,B=some ⟨b,f,none⟩/\∀j u,H[j]?=some u→w.cell? ⟨b,f+j,none⟩=some u) (hl:H.length=m*size) (D:dh w nc H []) (hm:0<m) (hn:n+m<=1099511627776)
  (h:∀g cap w',aD W w' (J.set i (.cel (.row e size (cs++nc)) (.slice (some ⟨g,0,none⟩) (n+m) cap)))→w.heap.size<=w'.heap.size →
   K (a.put o.dst (.slice (some ⟨g,0,none⟩) (n+m) cap)) w'):Oper.wp Tryz.prog o a w K Q:=by
 obtain⟨F,k1,k2,_,k4⟩:=S.part i hi;obtain⟨vs,Y,V⟩:=EC k1;obtain⟨b,f,rfl,af⟩:=hr;refine wp_append_lies w s x t ho 0 e q z size bytes ht Z R U ah ad ag (.slice A n c) n vs hs Y ⟨b,f,none⟩ m d H hx hl (fun j u hu=>by rw[Addr.add_lit];exact af j u hu) (dh.one D) hm (by unfold maxLen;omega) (Nat.le_trans (Nat.mul_le_mul_left _ I) (by omega)) (Nat.zero_le _) _ rfl fun g cap w' g1 g2 g3 _=>?_;rw[fu]at g2 g3;obtain⟨F',hF,hL⟩:=V F k1;obtain⟨G,u1,u2,u3,u4⟩:=vQ k2 D (by simp) (by simp) hF hL g1 g2 g3;refine h g cap w' (k4 w' _ G u1 u2 (fun k hk=>?_) u4) g2.size
 rcases u3 k hk with h|h|h
 ·exact .inl h
 ·simp at h
 exact .inr h
theorem xL{w:World}:∀g:List aL,dh w (g.flatMap aL.cells) (g.flatMap fun p=>[Value.int .i64 p.block,Value.int .i64 p.pin]) []
 | []=>dH.2 ⟨rfl,rfl⟩
 | p::g=>by
  rw[List.flatMap_cons,List.flatMap_cons];exact iQ (iQ (xL g))
theorem KH{w:World}{A:Oh}{m d:Nat}{g:List aL}(h:RdC w w.heap.size (aZ g) (.slice A m d))(hm:0<m):∃b f,A=some ⟨b,f,none⟩/\∀j u,(g.flatMap fun p=>[Value.int .i64 p.block,Value.int .i64 p.pin])[j]?=some u→w.cell? ⟨b,f+j,none⟩=some u:=by
 have hl:=h.pinN;obtain⟨b,f,rfl,_⟩:=h.pin (k:=0) (by omega);refine⟨b,f,rfl,fun j u B=>?_⟩;have z:(g.flatMap fun p=>[Value.int .i64 p.block,Value.int .i64 p.pin]).length=g.length*2:=lm (f:=fun p:aL=>[Value.int .i64 p.block,Value.int .i64 p.pin]) (s:=2) (fun _=>rfl) g;have hj:=(List.getElem?_eq_some_iff.1 B).1;rw[z]at hj;have hk:j/2<g.length:=by omega
 obtain⟨G,D,e,_,c0,c1⟩:=h.pin (k:=j/2) hk;injection e with e
 injection e with e1 e2
 subst e1 e2;have hx:g[j/2]?=some (g[j/2]?.getD aL.zero):=getD_some _ hk;have q:j=j/2*2+j%2:=by omega
 have h2:=wK (f:=fun p:aL=>[Value.int .i64 p.block,Value.int .i64 p.pin]) (s:=2) (fun _=>rfl) hx (j:=j%2) (by omega);rw[←q,B]at h2;have:j%2=0∨j%2=1:=by omega
 rcases this with h0|h0
 ·rw[h0]at h2;simp at h2;rw[q,h0,h2,Nat.add_zero];exact c0
 rw[h0]at h2;simp at h2;rw[q,h0,h2,←Nat.add_assoc];exact c1
theorem zo(s x:Operand)(ho:o.op=.call { callee := .builtin .append,args:=#[s,x],argTypes:=#[156,156] })
  (j:List Pc) (S:aD W w j) (i:Nat) (n c m d:Nat) (A B:Oh) (xs ys:List aL) (hi:j[i]?=some (.cel (aZ xs) (.slice A n c))) (hs:a.eval s=.slice A n c) (hx:a.eval x=.slice B m d) (hr:RdC w w.heap.size (aZ ys) (.slice B m d)) (hm:0<m) (hn:n+m<=1099511627776)
  (h:∀g cap w',aD W w' (j.set i (.cel (aZ (xs++ys)) (.slice (some ⟨g,0,none⟩) (n+m) cap)))→w.heap.size<=w'.heap.size →
   K (a.put o.dst (.slice (some ⟨g,0,none⟩) (n+m) cap)) w'):Oper.wp Tryz.prog o a w K Q:=by
 obtain⟨I,z,q,u,D⟩:=info_parts tZ;have hl:=hr.pinN;refine Il s x 156 100 ho I _ 2 16 Tryz.underlying156 z q u D rfl (by decide) (by decide) j S i n c m d A B _ _ _ hi hs hx (KH hr hm) ?_ (xL ys) hm hn fun g cap w' H G=>h g cap w' ?_ G
 ·rw[lm (f:=fun p:aL=>[Value.int .i64 p.block,Value.int .i64 p.pin]) (s:=2) (fun _=>rfl) ys,hl]
 unfold aZ;rw[List.flatMap_append];exact H
theorem tJ(q:o.guard=none)(s x:Operand)(ho:o.op=.call { callee := .builtin .append,args:=#[s,x],argTypes:=#[156,156] })
  (j:List Pc) (S:aD W w j) (i:Nat) (n c m d:Nat) (A B:Oh) (xs ys:List aL) (hi:j[i]?=some (.cel (aZ xs) (.slice A n c))) (hs:a.eval s=.slice A n c) (hx:a.eval x=.slice B m d) (hr:RdC w w.heap.size (aZ ys) (.slice B m d)) (hm:0<m) (hn:n+m<=1099511627776)
  (h:∀g cap w',aD W w' (j.set i (.cel (aZ (xs++ys)) (.slice (some ⟨g,0,none⟩) (n+m) cap)))→w.heap.size<=w'.heap.size →
   wpList Tryz.prog ops Q rest (a.put o.dst (.slice (some ⟨g,0,none⟩) (n+m) cap)) w'):wpList Tryz.prog ops Q (o::rest) a w :=
 wpList_plain q fun _ D=>zo s x ho j S i n c m d A B xs ys hi hs hx hr hm hn fun g cap w' z u=>D _ _ (h g cap w' z u)
theorem Dv(q:o.guard=none)(s x:Operand)(ho:o.op=.call { callee := .builtin .append,args:=#[s,x],argTypes:=#[156,156] })
  (j:List Pc) (S:aD W w j) (i:Nat) (n c m d:Nat) (A B:Oh) (xs ys:List aL) (hi:j[i]?=some (.cel (aZ xs) (.slice A n c))) (hs:a.eval s=.slice A n c) (hx:a.eval x=.slice B m d) (hr:RdC w w.heap.size (aZ ys) (.slice B m d)) (hm:0<m) (hn:n+m<=1099511627776)
  (h:∀g cap w',aD W w' (j.set i (.cel (aZ (xs++ys)) (.slice (some ⟨g,0,none⟩) (n+m) cap)))→w.heap.size<=w'.heap.size →
   K (a.put o.dst (.slice (some ⟨g,0,none⟩) (n+m) cap)) w'):if Region.wanted o (yielded ops a.tmps)=true then Oper.wp Tryz.prog o a w K Q else E:=by
 have u:Region.wanted o (yielded ops a.tmps)=true:=by simp[Region.wanted,q]
 rw[if_pos u];exact zo s x ho j S i n c m d A B xs ys hi hs hx hr hm hn h
theorem aD.consPins1{W w:World}{g:List Pc}(h:aD W w g)(a b:Int):aD W (w.alloc (.cells #[.int .i64 a,.int .i64 b] 100)) (.cel (aZ [⟨a,b⟩]) (.slice (some ⟨w.heap.size,0,none⟩) 1 1)::g):=by
 refine h.cons (aB (Below.refl _ _) _) (G:=[w.heap.size]) ?_ (by simp) (by simp);show dJ _ _ _ _;unfold aZ;rw[dV];refine⟨some ⟨w.heap.size,0,none⟩,1,1,[.int .i64 a,.int .i64 b],[],rfl,⟨rfl,.inr ⟨w.heap.size,1,#[.int .i64 a,.int .i64 b],rfl,Nat.zero_le _,aG _ _,by omega,by unfold maxLen;omega,rfl,rfl⟩⟩,rfl,iQ (iQ (dH.2 ⟨rfl,rfl⟩))⟩
end
end Go.Proofs.YtofihjoanjkdmaaGreat
