/- The program's test of blocks (printed by mkpk.py). -/
import Derived.Deep.CutRange
import Derived.Deep.DeepCutAuto
import Derived.Deep.RegionLaw
import Derived.Deep.Upon
import Derived.Test.YtofihjoanjkdmaaGreatLayK1
import Derived.Test.YtofihjoanjkdmaaGreatSepV
namespace Go.Proofs.YtofihjoanjkdmaaGreat
set_option maxHeartbeats 8000000
set_option maxRecDepth 100000
open Go.RowKit
theorem qN(g:Nat):∀(L:List Value) (o:Nat) (w:World),iZ [g] w (w.setCells g o L)
 | [],_,w=>iZ.refl _ w
 | v::L,o,w=>(tT (p:=⟨g,o,none⟩) (by simp) v).trans (qN g L (o+1) _)
theorem NG{α:Type}{l L:List α}{o:Nat}{v:α}(ho:o<l.length):(l.set o v).take (o+1)++L++(l.set o v).drop (o+1+L.length)=l.take o++v::L++l.drop (o+(L.length+1)):=by
 have e:l.set o v=l.take o++v::l.drop (o+1):=by rw[List.set_eq_take_append_cons_drop,if_pos ho]
 have hl:(l.take o).length=o:=by simp;omega
 rw[e,List.take_append,List.drop_append,hl,show o+1-o=1 by omega,show o+1+L.length-o=L.length+1 by omega,List.take_of_length_le (l:=l.take o) (by omega),List.drop_of_length_le (l:=l.take o) (by omega),List.drop_succ_cons,List.drop_drop,show o+1+L.length=o+(L.length+1) by omega];simp
theorem ug{g:Nat}{t:TypeId}:∀(L:List Value) (o:Nat) (w:World) (cs:Array Value),w.heap[g]?=some (.cells cs t (0,0))→o+L.length<=cs.size →
  ∃j:Array Value,(w.setCells g o L).heap[g]?=some (.cells j t (0,0))/\j.size=cs.size/\j.toList=cs.toList.take o++L++cs.toList.drop (o+L.length)
 | [],o,w,cs,h,_=>⟨cs,h,rfl,by simp⟩
 | v::L,o,w,cs,h,hl=>by
  rw[List.length_cons]at hl;obtain⟨j,h1,h2,h3⟩:=ug L (o+1) (w.setCell ⟨g,o,none⟩ v) (cs.setIfInBounds o v) (nP h o v) (by simp;omega);refine⟨j,h1,by simpa using h2,?_⟩;rw[h3,Array.toList_setIfInBounds,List.length_cons];exact NG (by simp;omega)
def LeT.vals(x:LeT):List Value:=[.int .i64 x.lut,.int .i64 x.ff]
theorem LeT.vals_length(x:LeT):x.vals.length=2:=rfl
def mE(L:List LeT):List Value:=L.flatMap LeT.vals
theorem Et(L:List LeT):(mE L).length=L.length*2:=lm (f:=LeT.vals) LeT.vals_length L
def sQ(w:World)(g o c:Nat)(L:List LeT):Prop:=∃cur:Array Value,w.heap[g]?=some (.cells cur 94 (0,0))/\o+c*2<=cur.size/\L.length<=c/\∀(j:Nat) (u:Value),(mE L)[j]?=some u→cur[o+j]?=some u
abbrev nU(g o c:Nat)(L:List LeT):Pc := .own g fun w=>sQ w g o c L
theorem sQ.keep{j q:World}{g o c:Nat}{L:List LeT}(e:q.heap[g]?=j.heap[g]?)(h:sQ j g o c L):sQ q g o c L:=by
 obtain⟨cur,h1,h2⟩:=h;exact⟨cur,e.trans h1,h2⟩
theorem Eu{w:World}:∀{L:List LeT} {vs:List Value} {F:List Nat},dh w (L.flatMap LeT.cells) vs F→vs=mE L/\F=[]
 | [],vs,F,h=>by rw[List.flatMap_nil,dH]at h;exact h
 | x::L,vs,F,h=>by
  rw[List.flatMap_cons]at h;obtain⟨v,g,z,F2,rfl,rfl,h1,h2⟩:=bU.1 h;obtain⟨u,j,B,D,rfl,rfl,h3,q⟩:=bU.1 h2;obtain⟨rfl,rfl⟩:=dZ.1 h1;obtain⟨rfl,rfl⟩:=dZ.1 h3;obtain⟨rfl,rfl⟩:=Eu (L:=L) q;exact⟨rfl,rfl⟩
theorem aD.toWin{W w:World}{B:List Pc}(h:aD W w B)(j:Nat){L:List LeT}{A:Oh}{n c:Nat}(hj:B[j]?=some (.cel (ay L) (.slice A n c)))(hn:0<n) :
  ∃g,A=some ⟨g,0,none⟩/\L.length=n/\aD W w (B.set j (nU g 0 c L)):=by
 have hr:=h.rd j hj;have hl:=hr.esN;obtain⟨F,k1,k2,k3,H⟩:=h.part j hj;have D:dJ w (.row 94 2 (L.flatMap LeT.cells)) (.slice A n c) F:=k1;obtain⟨U,Z,R,vs,F',q,ho,rfl,I⟩:=dV.1 D;injection q with e1 e2 e3
 subst e1 e2 e3;obtain⟨rfl,rfl⟩:=Eu I
 rcases ho.2 with⟨q,_⟩|⟨g,cap,cur,q,_,G,K,J,Q,ht⟩
 ·injection q with _ q _;omega
 injection q with hA hn' hc
 subst hA hc;refine⟨g,rfl,hl,H w _ [g] ⟨rfl,?_,⟨cur,G,by omega,by omega,fun j u z=>?_⟩,fun V Y e h=>h.keep e⟩ (by simp) (fun k hk => .inl (List.mem_append_left _ (nW.2 ⟨_,rfl,(List.mem_singleton.1 hk).symm⟩))) (iZ.refl _ _)⟩
 ·exact aH G
 rw[←ht,List.getElem?_take]at z
 split at z
 ·rw[Nat.zero_add,←Array.getElem?_toList];exact z
 cases z
theorem sQ.cell{w:World}{g o c:Nat}{L:List LeT}(h:sQ w g o c L){j:Nat}(hj:j<L.length):w.cell? ⟨g,o+j*2,none⟩=some (.int .i64 (L[j]?.getD LeT.zero).lut)/\w.cell? ⟨g,o+j*2+1,none⟩=some (.int .i64 (L[j]?.getD LeT.zero).ff):=by
 obtain⟨cur,h1,h2,h3,q⟩:=h;have hx:=getD_some LeT.zero hj;have u:=wK (f:=LeT.vals) (s:=2) LeT.vals_length hx (j:=0) (by omega);have z:=wK (f:=LeT.vals) (s:=2) LeT.vals_length hx (j:=1) (by omega);refine⟨aC h1 (q (j*2) _ u),?_⟩;rw[Nat.add_assoc];exact aC h1 (q (j*2+1) _ z)
theorem sQ.tail{w:World}{g o c:Nat}{x:LeT}{L:List LeT}(h:sQ w g o c (x::L)):sQ w g (if c=1 then o else o+2) (c-1) L:=by
 obtain⟨cur,h1,h2,h3,D⟩:=h;rw[List.length_cons]at h3
 have z:∀(j:Nat) (u:Value),(mE L)[j]?=some u→cur[o+2+j]?=some u:=fun j u q=>by
  rw[Nat.add_assoc];refine D (2+j) u ?_;show(LeT.vals x++mE L)[2+j]?=_;rw[List.getElem?_append_right (by rw[LeT.vals_length];omega),LeT.vals_length,show 2+j-2=j by omega];exact q
 by_cases hc:c=1
 ·rw[if_pos hc];have B:L=[]:=List.eq_nil_of_length_eq_zero (by omega);subst B;exact⟨cur,h1,by omega,by simp,fun j u q=>by simp[mE]at q⟩
 rw[if_neg hc];exact⟨cur,h1,by omega,by omega,z⟩
theorem aD.winTail{W w:World}{j:List Pc}(h:aD W w j)(i:Nat){g o c:Nat}{x:LeT}{L:List LeT}(hi:j[i]?=some (nU g o c (x::L))):aD W w (j.set i (nU g (if c=1 then o else o+2) (c-1) L)) :=
 h.same i (p':=nU g (if c=1 then o else o+2) (c-1) L) hi fun F hF=>by
  obtain⟨rfl,h1,h2,_⟩:=hF;exact⟨rfl,h1,h2.tail,fun q u e h=>h.keep e⟩
theorem aD.win{W w:World}{j:List Pc}(h:aD W w j)(i:Nat){g o c:Nat}{L:List LeT}(hi:j[i]?=some (nU g o c L)):sQ w g o c L/\g<w.heap.size:=by
 obtain⟨F,k1,_⟩:=h.part i hi;obtain⟨rfl,h1,h2,_⟩:=k1;exact⟨h2,h1⟩
theorem IQ(L:List LeT)(k:Nat):mE (L.eraseIdx k)=(mE L).take (k*2)++(mE L).drop ((k+1)*2):=by
 have ht:∀(L:List LeT) (k:Nat),mE (L.take k)=(mE L).take (k*2):=by
  intro L
  induction L with
  | nil=>intro k;simp[mE]
  | cons x L ih =>
   intro k
   cases k with
   | zero=>simp[mE]
   | succ k =>
    rw[List.take_succ_cons];show LeT.vals x++mE (L.take k)=(LeT.vals x++mE L).take ((k+1)*2);rw[ih k,List.take_append,LeT.vals_length,show(k+1)*2-2=k*2 by omega,List.take_of_length_le (l:=LeT.vals x) (by rw[LeT.vals_length];omega)]
 have hd:∀(L:List LeT) (k:Nat),mE (L.drop k)=(mE L).drop (k*2):=by
  intro L
  induction L with
  | nil=>intro k;simp[mE]
  | cons x L ih =>
   intro k
   cases k with
   | zero=>simp
   | succ k =>
    rw[List.drop_succ_cons];show mE (L.drop k)=(LeT.vals x++mE L).drop ((k+1)*2);rw[ih k,List.drop_append,LeT.vals_length,show(k+1)*2-2=k*2 by omega,show(LeT.vals x).drop ((k+1)*2)=[] from List.drop_eq_nil_of_le (by rw[LeT.vals_length];omega),List.nil_append]
 rw[List.eraseIdx_eq_take_drop_succ];show(L.take k++L.drop (k+1)).flatMap LeT.vals=_;rw[List.flatMap_append];show mE (L.take k)++mE (L.drop (k+1))=_;rw[ht,hd]
section
variable {ops:Array Oper} {o:Oper} {a:Act} {Q:Exit→Act→World→Prop} {K:Act→World→Prop} {E:Prop} {w W:World}
theorem xg(R:o.guard=none)(s x:Operand)
  (ho:o.op=.call { callee := .builtin .append,args:=#[s,x],argTypes:=#[87,87] })
  (J:List Pc) (S:aD W w J) (i k m g f c c':Nat) (U:Addr) (L:List LeT) (hi:J[i]?=some (nU g f c L)) (hk:k<L.length) (hs:a.eval s=.slice (some ⟨g,f,none⟩) k c) (hx:a.eval x=.slice (some U) m c') (hm:k+1+m=L.length) (Y:0<m→U=⟨g,f+(k+1)*2,none⟩)
  (h:∀w',aD W w' (J.set i (nU g f c (L.eraseIdx k)))→K (a.put o.dst (.slice (some ⟨g,f,none⟩) (k+m) c)) w') :
  if Region.wanted o (yielded ops a.tmps)=true then Oper.wp Tryz.prog o a w K Q else E:=by
 obtain⟨ti,ae,ak,V,am⟩:=info_parts tL;obtain⟨F,k1,k2,k3,k4⟩:=S.part i hi;obtain⟨rfl,hl,⟨cur,h1,h2,h3,h4⟩,_⟩:=k1;have z:((mE L).drop ((k+1)*2)).length=m*2:=by rw[List.length_drop,Et];omega
 have I:∀j,j<cur.size→(w.cell? ⟨g,j,none⟩).isSome=true/\w.frozen? ⟨g,j,none⟩=false:=fun j hj=>by
  refine⟨?_,aN h1 j⟩;rw[aC (k:=j) h1 (Array.getElem?_eq_getElem hj)];rfl
 have H:∀u∈mE L,u.oneCell'=true:=fun u q=>by
  obtain⟨y,_,hy⟩:=List.mem_flatMap.1 q;simp only[LeT.vals,List.mem_cons,List.not_mem_nil,or_false]at hy
  rcases hy with rfl|rfl <;> rfl
 refine step_append_room R s x 87 ho 94 ti 2 Tryz.underlying87 ae V g f k c hs U m c' ((mE L).drop ((k+1)*2)) hx z (fun j u q=>?_) (fun u q=>H u (List.mem_of_mem_drop q)) (by omega) (fun j hj=>?_) ?_
 ·have hj:j<m*2:=by rw[←z];exact(List.getElem?_eq_some_iff.1 q).1
  rw[Y (by omega),Addr.add_lit];rw[List.getElem?_drop]at q;have:=aC h1 (h4 _ u q);rw[←Nat.add_assoc]at this;exact this
 ·rw[z]at hj;exact I _ (by omega)
 obtain⟨Z,e1,e2,e3⟩:=ug ((mE L).drop ((k+1)*2)) (f+k*2) w cur h1 (by rw[z];omega);have D:(cur.toList.take (f+k*2)).length=f+k*2:=by rw[List.length_take,Array.length_toList];omega
 refine h _ (k4 _ _ [g] ⟨rfl,?_,⟨Z,e1,by rw[e2];exact h2,by rw[List.length_eraseIdx,if_pos hk];omega,fun j u q=>?_⟩,fun w1 w2 e h=>h.keep e⟩ (by simp) (fun k hk => .inl hk) (qN g _ (f+k*2) w))
 ·exact Nat.lt_of_lt_of_le hl (qN g _ (f+k*2) w).size
 rw[IQ]at q;rw[←Array.getElem?_toList,e3,List.append_assoc];have B:((mE L).take (k*2)).length=k*2:=by rw[List.length_take,Et];omega
 by_cases G:j<k*2
 ·rw[List.getElem?_append_left (by rw[B];exact G),List.getElem?_take,if_pos G]at q;rw[List.getElem?_append_left (by rw[D];omega),List.getElem?_take,if_pos (by omega),Array.getElem?_toList];exact h4 j u q
 rw[List.getElem?_append_right (by rw[B];omega),B]at q;have af:j-k*2<((mE L).drop ((k+1)*2)).length:=(List.getElem?_eq_some_iff.1 q).1;rw[List.getElem?_append_right (by rw[D];omega),D,show f+j-(f+k*2)=j-k*2 by omega,List.getElem?_append_left af];exact q
end
def mF(l:aU)(e:LeT):List Int:=ins (fD l e) (dM l e)
def pF(l:aU)(a b:LeT):Nat:=(mF l a).countP fun x=>decide (x∈mF l b)
def sS(l:aU)(a b:LeT):Bool:=decide ((qA l [a,b]).length<=5)
def eF(l:aU)(e:LeT)(rest:List LeT):Nat→Int×Int
 | 0=>(-1,-1)
 | i+1=>if sS l e (rest[i]?.getD LeT.zero)=true/\(eF l e rest i).2<(pF l e (rest[i]?.getD LeT.zero):Int)then((i:Int)+1,(pF l e (rest[i]?.getD LeT.zero):Int))else eF l e rest i
theorem ww(l:aU)(e:LeT)(rest:List LeT):∀i,(eF l e rest i=(-1,-1)∨1<=(eF l e rest i).1/\(eF l e rest i).1<=(i:Int)/\0<=(eF l e rest i).2/\sS l e (rest[((eF l e rest i).1-1).toNat]?.getD LeT.zero)=true)
 | 0 => .inl rfl
 | i+1=>by
  have ih:=ww l e rest i;rw[eF]
  split
  ·rename_i h;refine .inr ⟨by simp only;omega,by simp only;omega,by simp only;omega,?_⟩;simp only;rw[show((i:Int)+1-1).toNat=i by omega];exact h.1
  rcases ih with h|h
  ·exact .inl h
  exact .inr ⟨h.1,by omega,h.2.2⟩
theorem zP(l:aU)(e:LeT)(xs ys:List LeT):∀i,i<=xs.length→eF l e (xs++ys) i=eF l e xs i
 | 0,_=>rfl
 | i+1,hi=>by
  rw[eF,eF,zP l e xs ys i (by omega),List.getElem?_append_left (by omega)]
def kW(l:aU)(e:LeT)(rest:List LeT):Int:=(eF l e rest rest.length).1
def eY(l:aU):Nat→List LeT→List Blk
 | 0,_=>[]
 | _+1,[]=>[]
 | n+1,e::rest=>if 0<kW l e rest then⟨3,0,[e,rest[(kW l e rest-1).toNat]?.getD LeT.zero]⟩::eY l n (rest.eraseIdx (kW l e rest-1).toNat)else⟨3,0,[e]⟩::eY l n rest
theorem rD(l:aU):∀{n m:Nat} {es:List LeT},es.length<=n→es.length<=m→eY l n es=eY l m es
 | 0,m,es,h,_=>by
  have:es=[]:=List.eq_nil_of_length_eq_zero (by omega);subst this
  cases m <;> rfl
 | n+1,0,es,_,h=>by
  have:es=[]:=List.eq_nil_of_length_eq_zero (by omega);subst this
  rfl
 | n+1,m+1,[],_,_=>rfl
 | n+1,m+1,e::rest,h1,h2=>by
  simp only[List.length_cons]at h1 h2;rw[eY,eY];have he:(rest.eraseIdx (kW l e rest-1).toNat).length<=rest.length:=by rw[List.length_eraseIdx];split <;> omega
  split
  ·rw[rD l (n:=n) (m:=m) (by omega) (by omega)]
  rw[rD l (n:=n) (m:=m) (by omega) (by omega)]
def ioB(l:aU):List Blk:=(List.range l.inputs.toNat).map (fun(i:Nat)=>(⟨0,(i:Int),[]⟩:Blk))++(List.range l.outs.length).map (fun(i:Nat)=>(⟨1,(i:Int),[]⟩:Blk)) ++
 (List.range l.seqs.length).flatMap fun(i:Nat)=>if(l.seqs[i]?.getD Sq.zero).kind=1 then[(⟨2,(i:Int),[]⟩:Blk)]else[]
def mI(l:aU):List Blk:=ioB l++eY l (els l).length (els l)
def fM(l:aU):List Blk×Bool:=if(mI l).length<=64 then(mI l,true)else([],false)
theorem xA(xs:List Int)(p:Int→Bool){k:Nat}(hk:k<xs.length):(xs.take (k+1)).countP p=(xs.take k).countP p+if p (xs[k]?.getD 0)=true then 1 else 0:=by
 rw[List.take_add_one,List.getElem?_eq_getElem hk,List.countP_append];by_cases h:p xs[k]=true <;> simp[h]
theorem yL(A B:Oh)(n c m d:Nat)(xs ys:List Int)(w:World)(hA:bT w A n xs)(J:bT w B m ys)(hn:n<=1048576)(hm:m<=1048576) :
  Calls Tryz.prog 181 #[.slice A n c,.slice B m d] w fun e w'=>e=.returned (.int .i64 ((xs.countP fun x=>decide (x∈ys):Nat):Int))/\w=w':=by
 obtain⟨H,Q⟩:=hd2 hA J;clear hA J;go_enter Tryz.func181,Tryz.ntmps181;go_wp2
 go_loopw[5,10] (fun v i wr=>∃k t:Nat,k<=n/\t<=k/\i=.int .i64 (k:Int)/\v=.int .i64 (t:Int)/\w=wr/\t=(xs.take k).countP fun x=>decide (x∈ys)) (fun _ i _=>n-(intOf i).toNat)
 ·exact⟨0,0,by omega,by omega,rfl,rfl,rfl,by simp⟩
 obtain⟨k,t,hk,ht,rfl,rfl,rfl,hc⟩:=hrel;have D:=Hd hc;clear hc;by_cases u:k<n
 ·have G:=dT (by omega:k<n);obtain⟨b,o,rfl,hb,hc⟩:=H.1.2 (by omega);have K:=hc k u;have I:=Hd (xA xs (fun x=>decide (x∈ys)) (k:=k) (by rw[H.1.1];exact u));generalize xs[k]?.getD 0=y at *;obtain⟨R,U⟩:=ib (by omega:k<n);clear hc;go_wp2_with fail;refine(mZ B m d ys y _ Q.1 hm).mono ?_;rintro _ _ ⟨rfl,rfl⟩;by_cases z:y∈ys
  ·have j:decide (y∈ys)=true:=decide_eq_true z;have g:Hv (t+1=(xs.take (k+1)).countP fun x=>decide (x∈ys)):=Hd<|by show _=_;rw[I.1,←D.1,if_pos j]
   rw[j];clear z j;go_wp2;go_roundw
   ·exact⟨k+1,t+1,by omega,by omega,by go_num,by go_num,by first|rfl|trivial,g.1⟩
   simp[intOf];omega
  have j:decide (y∈ys)=false:=decide_eq_false z;have g:Hv (t=(xs.take (k+1)).countP fun x=>decide (x∈ys)):=Hd<|by show _=_;rw[I.1,←D.1,j];rfl
  rw[j];clear z j;go_wp2;go_roundw
  ·exact⟨k+1,t,by omega,by omega,by go_num,by go_num,by first|rfl|trivial,g.1⟩
  simp[intOf];omega
 have q:k=n:=by omega
 have G:=dF (by omega:n<=k);have g:Hv (t=xs.countP fun x=>decide (x∈ys)):=Hd<|by show _=_;rw[D.1,q,←H.1.1,List.take_length]
 clear q;go_wp2;go_ret;exact⟨aQ (by rw[g.1]),rfl⟩
theorem pG{l:aU}(hf:bJ l){e:LeT}(he:eB l e):(fD l e).length<=4:=by
 unfold fD qY;have h2:∀xs:List Int,(asc xs).length<=xs.length:=fun xs=>iK xs;refine Nat.le_trans (h2 _) (Nat.le_trans (List.length_filter_le _ _) ?_)
 split
 ·exact(hf.luts e.lut.toNat (by have:=he.lut;omega)).1
 rename_i h;have h1:=(hf.seqs e.ff.toNat (by have h3:=he.lut;have j:=he.ff;have g:=he.one;omega)).1;unfold aU.sq
 rcases h1 with h1|h1 <;> rw[h1.2.2] <;> omega
theorem xh(l:aU)(SA LA OA:Oh)(sn sc ln lc on oc:Nat)(a b:Int)(w:World)(h:fA w l SA LA OA sn sc ln lc on oc)(hf:bJ l)(he:eB l ⟨a,b⟩) :
  Calls Tryz.prog 180 #[ig l SA LA OA sn sc ln lc on oc,.agg #[.int .i64 a,.int .i64 b]] w fun e w'=>∃A n c,e=.returned (.slice A n c)/\Own w.heap.size w' A n c (mF l ⟨a,b⟩)/\Below w.heap.size w w':=by
 have ak:=pG hf he;obtain⟨U,HF,H⟩:=hd3 h hf he;have u:=Hd (aB (aB (Below.refl w.heap.size w) (.cells (bX l SA LA OA sn sc ln lc on oc) 41)) (.cells #[.int .i64 a,.int .i64 b] 94));have h1:=dP (.cells #[.int .i64 a,.int .i64 b] 94) (aG w (.cells (bX l SA LA OA sn sc ln lc on oc) 41));have h2:=aG (w.alloc (.cells (bX l SA LA OA sn sc ln lc on oc) 41)) (.cells #[.int .i64 a,.int .i64 b] 94);simp only[World.size_alloc]at h2;obtain⟨G,B⟩:=hd2 h1 h2;clear h hf he h1 h2;go_enter Tryz.func180,Tryz.ntmps180;go_upto_region 1 with fail;obtain⟨gN,z⟩:∃g,w.heap.size=g:=⟨_,rfl⟩;obtain⟨gE,D⟩:∃g,gN+1=g:=⟨_,rfl⟩;generalize (w.alloc (.cells (bX l SA LA OA sn sc ln lc on oc) 41)).alloc (.cells #[.int .i64 a,.int .i64 b] 94)=j at *;rw[z]at G B;rw[D]at B
 (try rw[z])
 (try rw[D])
 clear z D;obtain⟨n0,n1,n2,n3,ag⟩:=bA G.1;obtain⟨e0,e1,ae⟩:=iC B.1;have q:=(Below.refl j.heap.size j).drew;have af:=Below.refl j.heap.size j;have Q:=Hd (fun(v:World) (K:Below j.heap.size j v)=>wW l SA LA OA sn sc ln lc on oc a b v (U.1.below (aA u.1 K)) HF.1 H.1);have R:=Hd (fun(v:World) (K:Below j.heap.size j v)=>sF l SA LA OA sn sc ln lc on oc a b v (U.1.below (aA u.1 K)) HF.1 H.1)
 go_cut[4] (fun v w'=>∃A n c,v=.slice A n c/\Own j.heap.size w' A n c (mF l ⟨a,b⟩)/\Below j.heap.size j w')
 case first =>
  go_region_held3 (fun w'=>Below j.heap.size j w'/\∀b o,b<j.heap.size→w'.cell? ⟨b,o,none⟩=j.cell? ⟨b,o,none⟩)
   (first|exact⟨q,(az q).1⟩)
   (first
    | (go_at_call 214;(with_reducible refine(Q.1 _ q).mono ?_);rintro _ v3 ⟨A3,n3,c3,rfl,V,W⟩;have I:=Hd (V.more q.size);replace q:=aA q W;clear V W)
    | (go_at_call 142;(with_reducible refine(R.1 _ q).mono ?_);rintro _ v4 ⟨rfl,J⟩;(try replace I:=Hd (I.1.below J));replace q:=aA q J;clear J)
    | (go_at_call 215;(with_reducible refine(jD j.heap.size _ _ _ _ (dM l ⟨a,b⟩) _ I.1 q.size (by have:=I.1.len;omega)).mono ?_);rintro _ v5 ⟨A5,n5,c5,rfl,Y,Z⟩;have O5:=Hd Y;replace q:=aA q Z;clear Y Z))
  all_goals
   go_wp2;go_meet;exact⟨_,_,_,rfl,O5.1,q⟩
 obtain⟨A,n,c,rfl,ho,hb⟩:=hcut;have HO:=Hd ho;have HB:=Hd (aA u.1 hb);clear ho hb;go_wp2;go_ret;exact⟨_,_,_,rfl,HO.1.more u.1.size,HB.1⟩
theorem Ew:(Tryz.prog.info? 89).map (fun i=>(i.zero,i.size,i.bytes))=some (some (.agg #[.int .i64 0,.int .i64 0,.slice none 0 0]),3,40):=by kernel_rfl
theorem jq(bs:List Blk)(b:Blk):aa (bs++[b])=.row 89 3 (bs.flatMap Blk.cells++b.cells):=by
 unfold aa;rw[List.flatMap_append,List.flatMap_singleton]
theorem aD.consBlkV{W w:World}{g:List Pc}(h:aD W w g)(k i:Int):aD W w (.cels (⟨k,i,[]⟩:Blk).cells #[.int .i64 k,.int .i64 i,.slice none 0 0].toList::g) :=
 h.cons (Below.refl _ _) (G:=[]) (show dh w [.int k,.int i,ay []] [.int .i64 k,.int .i64 i,.slice none 0 0] [] from
  bU.2 ⟨_,_,[],[],rfl,rfl,dZ.2 ⟨rfl,rfl⟩,bU.2 ⟨_,_,[],[],rfl,rfl,dZ.2 ⟨rfl,rfl⟩,bU.2 ⟨_,_,[],[],rfl,rfl,
   (show dJ w (.row 94 2 []) (.slice none 0 0) [] by rw[dV];exact⟨none,0,0,[],[],rfl,⟨by simp,.inl ⟨rfl,rfl⟩⟩,rfl,dH.2 ⟨rfl,rfl⟩⟩),dH.2 ⟨rfl,rfl⟩⟩⟩⟩) (by simp) (by simp)
theorem aD.consEs1{W w:World}{g:List Pc}(h:aD W w g)(a b:Int):aD W (w.alloc (.cells #[.int .i64 a,.int .i64 b] 94)) (.cel (ay [⟨a,b⟩]) (.slice (some ⟨w.heap.size,0,none⟩) 1 1)::g):=by
 refine h.cons (aB (Below.refl _ _) _) (G:=[w.heap.size]) ?_ (by simp) (by simp);show dJ _ (.row 94 2 [.int a,.int b]) _ _;rw[dV];exact⟨_,1,1,[.int .i64 a,.int .i64 b],[],rfl,⟨rfl,.inr ⟨w.heap.size,1,#[.int .i64 a,.int .i64 b],rfl,Nat.zero_le _,aG _ _,Nat.le_refl _,by unfold maxLen;omega,rfl,rfl⟩⟩,rfl,iQ (iQ (dH.2 ⟨rfl,rfl⟩))⟩
theorem aD.consEs2{W w:World}{q:List Pc}(h:aD W w q)(a b j g:Int):aD W (w.alloc (.cells #[.int .i64 a,.int .i64 b,.int .i64 j,.int .i64 g] 94)) (.cel (ay [⟨a,b⟩,⟨j,g⟩]) (.slice (some ⟨w.heap.size,0,none⟩) 2 2)::q):=by
 refine h.cons (aB (Below.refl _ _) _) (G:=[w.heap.size]) ?_ (by simp) (by simp);show dJ _ (.row 94 2 [.int a,.int b,.int j,.int g]) _ _;rw[dV];exact⟨_,2,2,[.int .i64 a,.int .i64 b,.int .i64 j,.int .i64 g],[],rfl,⟨rfl,.inr ⟨w.heap.size,2,#[.int .i64 a,.int .i64 b,.int .i64 j,.int .i64 g],rfl,Nat.zero_le _,aG _ _,Nat.le_refl _,by unfold maxLen;omega,rfl,rfl⟩⟩,rfl,iQ (iQ (iQ (iQ (dH.2 ⟨rfl,rfl⟩))))⟩
theorem aD.toBlk{W w:World}{g:List Pc}(h:aD W w g)(j:Nat)(k i:Int){es:List LeT}{v:Value}(hj:g[j]?=some (.cel (ay es) v)):aD W w (g.set j (.cels (⟨k,i,es⟩:Blk).cells (#[Value.int .i64 k,Value.int .i64 i,v]:Array Value).toList)) :=
 h.same j (p' := .cels (⟨k,i,es⟩:Blk).cells (#[Value.int .i64 k,Value.int .i64 i,v]:Array Value).toList) hj fun F h=>show dh w [.int k,.int i,ay es] [.int .i64 k,.int .i64 i,v] F from
  bU.2 ⟨_,_,[],F,rfl,rfl,dZ.2 ⟨rfl,rfl⟩,bU.2 ⟨_,_,[],F,rfl,rfl,dZ.2 ⟨rfl,rfl⟩,bU.2 ⟨v,[],F,[],rfl,(List.append_nil F).symm,h,dH.2 ⟨rfl,rfl⟩⟩⟩⟩
theorem aD.consLeV{W w:World}{g:List Pc}(h:aD W w g)(a b:Int):aD W w (.cels (⟨a,b⟩:LeT).cells #[.int .i64 a,.int .i64 b].toList::g) :=
 h.cons (Below.refl _ _) (G:=[]) (show dh w [.int a,.int b] [.int .i64 a,.int .i64 b] [] from
  bU.2 ⟨_,_,[],[],rfl,rfl,dZ.2 ⟨rfl,rfl⟩,bU.2 ⟨_,_,[],[],rfl,rfl,dZ.2 ⟨rfl,rfl⟩,dH.2 ⟨rfl,rfl⟩⟩⟩) (by simp) (by simp)
theorem zQ{α:Type}(x:α)(L:List α){b:Nat}(h:1<=b):(x::L).eraseIdx b=x::L.eraseIdx (b-1):=by
 cases b with
 | zero=>omega
 | succ b=>rfl
def ioI(k:Nat):List Blk:=(List.range k).map fun(i:Nat)=>(⟨0,(i:Int),[]⟩:Blk)
def ioO(a k:Nat):List Blk:=ioI a++(List.range k).map fun(i:Nat)=>(⟨1,(i:Int),[]⟩:Blk)
def ioM(l:aU)(k:Nat):List Blk:=ioO l.inputs.toNat l.outs.length++(List.range k).flatMap fun(i:Nat)=>if(l.seqs[i]?.getD Sq.zero).kind=1 then[(⟨2,(i:Int),[]⟩:Blk)]else[]
theorem JY(l:aU):ioM l l.seqs.length=ioB l:=rfl
theorem Ey(k:Nat):ioI (k+1)=ioI k++[⟨0,(k:Int),[]⟩]:=by unfold ioI;rw[List.range_succ,List.map_append];rfl
theorem Ez(a k:Nat):ioO a (k+1)=ioO a k++[⟨1,(k:Int),[]⟩]:=by unfold ioO;rw[List.range_succ,List.map_append,List.append_assoc];rfl
theorem FB(a:Nat):ioO a 0=ioI a:=by unfold ioO;simp
theorem FC(l:aU):ioM l 0=ioO l.inputs.toNat l.outs.length:=by unfold ioM;simp
theorem FD(l:aU)(k:Nat):ioM l (k+1)=ioM l k++if(l.seqs[k]?.getD Sq.zero).kind=1 then[⟨2,(k:Int),[]⟩]else[]:=by unfold ioM;rw[List.range_succ,List.flatMap_append,List.flatMap_singleton,List.append_assoc]
theorem LQ(l:aU)(SA LA OA:Oh)(sn sc ln lc on oc:Nat)(w:World)(hN:fA w l SA LA OA sn sc ln lc on oc)(hf:bJ l) :
  Calls Tryz.prog 94 #[ig l SA LA OA sn sc ln lc on oc] w fun e w'=>∃A n c,e=.returned (.tuple #[.slice A n c,.bool (fM l).2])/\aD w w' [.cel (aa (fM l).1) (.slice A n c)]:=by
 obtain⟨bn,br,aE⟩:=hN.lens;have dM:sn<=12:=by rw[←bn];exact hf.nseq
 have dB:ln<=400:=by rw[←br];exact hf.nlut
 have dC:on<=16:=by rw[←aE];exact hf.nout
 have bI:=hf.inp;obtain⟨bj,cJ,cu,HN,HF⟩:=hd5 bn br aE hN hf;obtain⟨Y,bc⟩:∃Y:Nat,l.inputs=(Y:Int):=⟨_,(Int.toNat_of_nonneg bI.1).symm⟩;have cV:=Hd bc;have cN:Hv (l.inputs.toNat=Y):=Hd<|by show _=_;rw[bc];rfl
 obtain⟨aP,cw,bK,bT,bQ⟩:=info_parts Ew;have H:=Hd (And.intro cw (And.intro bK (And.intro bT bQ)));obtain⟨cW,cG,cb,bM,bY⟩:=info_parts tL;have aX:=Hd (And.intro cG (And.intro cb (And.intro bM bY)));clear cb bM bY;have cA:Y<=20:=by omega
 clear hN hf bn br aE bK bT bQ bc bI;have ad:=Hd (aB (Below.refl w.heap.size w) (.cells (bX l SA LA OA sn sc ln lc on oc) 41));have U:=Hd (aG w (.cells (bX l SA LA OA sn sc ln lc on oc) 41));go_enter Tryz.func94,Tryz.ntmps94;go_upto_region 1 with fail;obtain⟨gN,bb⟩:∃g,w.heap.size=g:=⟨_,rfl⟩;generalize w.alloc (.cells (bX l SA LA OA sn sc ln lc on oc) 41)=W9 at *;rw[bb]at U
 (try rw[bb])
 clear bb;have G:=U;obtain⟨n0,n1,n2,n3,nl⟩:=bA G.1;go_wp2_with fail;refine(nz l SA LA OA sn sc ln lc on oc _ (HN.1.below ad.1)).mono ?_;rw[bZ HF.1];rintro _ w1 ⟨rfl,b1⟩;have cz:=Hd ((aD.nil b1).pushNil 89 3);clear b1 n0 n1 n2 n3 nl G;go_wp2
 go_loopw[4,5] (fun ov iv wr=>∃(k:Nat) (A:Oh) (c:Nat),k<=Y/\ov=.slice A k c/\iv=.int .i64 (k:Int)/\aD W9 wr [.cel (aa (ioI k)) (.slice A k c)]) (fun _ iv _=>Y-(intOf iv).toNat)
 ·exact⟨0,_,_,by omega,rfl,rfl,cz.1⟩
 obtain⟨k,A,c,hk,rfl,rfl,hs⟩:=hrel;have D:=Hd hs;have G:=Hd (aF hs.bel U.1);clear hs;have n0:wr.cell? ⟨gN,0,none⟩=some (.int .i64 (Y:Int)):=by rw[←cV.1];exact aC (k:=0) G.1 rfl
 have nl:=aH G.1;by_cases ax:k<Y
 ·have bh:=dT (by omega:k<Y);have az:=Hd (Ey k);go_upto_region 7 with fail;clear n0 nl
  go_wp2_with (at_builtin;refine af rfl _ _ 42 89 rfl aP _ 3 40 Tryz.underlying42 H.1.1 H.1.2.1 H.1.2.2.1 H.1.2.2.2 rfl (by decide) (by decide) _ ((D.1.alloc _).consBlkV 0 (k:Int)) 1 0 (by decide) k c _ A ((ioI k).flatMap Blk.cells) _ #[.int .i64 0,.int .i64 (k:Int),.slice none 0 0] _ rfl rfl rfl rfl (aG _ _) rfl (by omega) ?_;intro g9 cap w9 S9 V;have I:=Hd S9.tail;clear S9 V)
  go_roundw
  ·exact⟨k+1,_,_,by omega,rfl,by go_num,by rw[az.1,jq];exact I.1⟩
  simp[intOf];omega
 have cq:Y=k:=by omega
 subst cq;have bh:decide ((Y:Int)<(Y:Int))=false:=by simp
 have cB:Hv (aD W9 wr [.cel (aa (ioO Y 0)) (.slice A Y c)]):=Hd<|by rw[FB];exact D.1
 clear D;have n3:=aC (k:=3) G.1 rfl;go_wp2_with fail;clear n0 n3 nl G
 go_loopw[4,35] (fun ov iv wr=>∃(q:Nat) (A:Oh) (c:Nat),q<=on/\ov=.slice A (Y+q) c/\iv=.int .i64 (q:Int)/\aD W9 wr [.cel (aa (ioO Y q)) (.slice A (Y+q) c)]) (fun _ iv _=>on-(intOf iv).toNat)
 ·exact⟨0,_,_,by omega,by rfl,rfl,cB.1⟩
 obtain⟨q,A,c,hq,rfl,rfl,hs⟩:=hrel;have D:=Hd hs;have G:=Hd (aF hs.bel U.1);clear hs;obtain⟨-,n1,nl⟩:=iC G.1;by_cases ax:q<on
 ·have cC:=dT (by omega:q<on);have az:=Hd (Ez Y q);go_upto_region 11 with fail;clear n1 nl
  go_wp2_with (at_builtin;refine af rfl _ _ 42 89 rfl aP _ 3 40 Tryz.underlying42 H.1.1 H.1.2.1 H.1.2.2.1 H.1.2.2.2 rfl (by decide) (by decide) _ ((D.1.alloc _).consBlkV 1 (q:Int)) 1 0 (by decide) (Y+q) c _ A ((ioO Y q).flatMap Blk.cells) _ #[.int .i64 1,.int .i64 (q:Int),.slice none 0 0] _ rfl rfl rfl rfl (aG _ _) rfl (by omega) ?_;intro g9 cap w9 S9 V;have I:=Hd S9.tail;clear S9 V)
  go_roundw
  ·exact⟨q+1,_,_,by omega,rfl,by go_num,by rw[az.1,jq];exact I.1⟩
  simp[intOf];omega
 have cT:on=q:=by omega
 subst cT;have cC:decide ((on:Int)<(on:Int))=false:=by simp
 have co:Hv (aD W9 wr [.cel (aa (ioM l 0)) (.slice A (Y+on) c)]):=Hd<|by rw[FC,cN.1,cu.1];exact D.1
 clear D;go_wp2_with fail;clear n1 nl G
 go_loopw[4,47] (fun ov iv wr=>∃(r:Nat) (A:Oh) (n c:Nat),r<=sn/\n<=40+r/\ov=.slice A n c/\iv=.int .i64 (r:Int)/\aD W9 wr [.cel (aa (ioM l r)) (.slice A n c)]) (fun _ iv _=>sn-(intOf iv).toNat)
 ·exact⟨0,_,_,_,by omega,by omega,rfl,rfl,co.1⟩
 obtain⟨r,A,n,c,hr,dr,rfl,rfl,hs⟩:=hrel;have D:=Hd hs;have G:=Hd (aF hs.bel U.1);have aM:=Hd (aA ad.1 hs.bel);clear hs;by_cases ax:r<sn
 ·have cF:=dT (by omega:r<sn);have b5:r<l.seqs.length:=by rw[bj.1];exact ax
  obtain⟨sb,so,IA,im,ic,bU,a0,d0,d1,d2,rI⟩:=HN.1.sq.sq' (k:=r) b5;have az:=Hd (FD l r);have am:=Hd bU;have cr:=aJ aM.1 a0;rw[←aM.1.cell (p:=⟨sb,so+r*3,none⟩) a0]at d0;rw[←aM.1.cell (p:=⟨sb,so+r*3+1,none⟩) a0]at d1;rw[←aM.1.cell (p:=⟨sb,so+r*3+2,none⟩) a0]at d2;generalize (l.seqs[r]?.getD Sq.zero).kind=kd at *;generalize (l.seqs[r]?.getD Sq.zero).init=it at *;obtain⟨r0,r1⟩:=ib (by omega:r<sn);clear bU rI b5;obtain rfl:=am.1;have bC:=Hd (D.1.alloc (.cells #[.int .i64 kd,.int .i64 it,.slice IA im ic] 91));by_cases hz:kd=1
  ·have dz:(kd==1)=true:=by simp[hz]
   have a9:Hv (ioM l (r+1)=ioM l r++[⟨2,(r:Int),[]⟩]):=Hd<|by show _=_;rw[az.1,if_pos hz]
   clear hz;go_upto_region 17 with fail;clear d0 d1 d2 cr;generalize wr.alloc (.cells #[.int .i64 kd,.int .i64 it,.slice IA im ic] 91)=w7 at *
   go_wp2_with (at_builtin;refine af rfl _ _ 42 89 rfl aP _ 3 40 Tryz.underlying42 H.1.1 H.1.2.1 H.1.2.2.1 H.1.2.2.2 rfl (by decide) (by decide) _ ((bC.1.alloc _).consBlkV 2 (r:Int)) 1 0 (by decide) n c _ A ((ioM l r).flatMap Blk.cells) _ #[.int .i64 2,.int .i64 (r:Int),.slice none 0 0] _ rfl rfl rfl rfl (aG _ _) rfl (by omega) ?_;intro g9 cap w9 S9 V;have I:=Hd S9.tail;clear S9 V)
   go_roundw
   ·exact⟨r+1,_,_,_,by omega,by omega,rfl,by go_num,by rw[a9.1,jq];exact I.1⟩
   simp[intOf];omega
  have dz:(kd==1)=false:=by simp[hz]
  have a9:Hv (ioM l (r+1)=ioM l r):=Hd<|by show _=_;rw[az.1,if_neg hz,List.append_nil]
  clear hz;go_wp2;go_roundw
  ·exact⟨r+1,_,_,_,by omega,by omega,rfl,by go_num,by rw[a9.1];exact bC.1⟩
  simp[intOf];omega
 have bR:r=sn:=by omega
 have cF:=dF (by omega:sn<=r);have hs:=D.1;rw[bR,←bj.1,JY]at hs;have bV:=Hd hs;have di:n<=52:=by omega
 clear D hs bR;obtain⟨n0,n1,n2,n3,nl⟩:=bA G.1;go_wp2_with fail;refine(Dz l SA LA OA sn sc ln lc on oc _ (HN.1.below aM.1) HF.1).mono ?_;rintro _ w4 ⟨EA,en,ec,rfl,S4⟩;have au:=(S4.rd 0 rfl).esN;have aW:=Hd (bV.1.pushT S4.bel (S4.tree 0 rfl));clear S4 n0 n1 n2 n3 nl G bV;have aR:Hv (mI l=ioB l++eY l (els l).length (els l)):=Hd<|rfl
 have cx:Hv (∀x∈els l,eB l x):=Hd<|Dy HF.1
 have bm:Hv (fM l=if(mI l).length<=64 then(mI l,true)else([],false)):=Hd<|rfl
 have dS:en<=412:=by
  have h1:=zt l (aK l.count (fw l)) l.luts.length;have h2:els l=kJ l (aK l.count (fw l)) l.luts.length:=rfl;rw[←h2,au,bj.1,cJ.1]at h1;omega
 generalize els l=E0 at *;generalize ioB l=O0 at *;generalize mI l=PB at *;go_wp2;by_cases bO:en=0
 ·have cH:Hv (E0=[]):=Hd<|List.eq_nil_of_length_eq_zero (by rw[au];exact bO)
  have aw:Hv (PB=O0):=Hd<|by show _=_;rw[aR.1,cH.1];exact List.append_nil _
  have c2:O0.length=n:=(aW.1.rd 0 rfl).blkN;have ah:Hv (fM l=(O0,true)):=Hd<|by show _=_;rw[bm.1,aw.1,if_pos (by omega)]
  have ai:=Hd (((aW.1.sub (qs:=[_]) (List.sublist_append_left [_] [_]))).lowerC ad.1 (lo:=_) (hi:=_) ad.1.size (Nat.le_refl _) (Chg.refl' _ _ _));have a5:decide ((n:Int)>64)=false:=by simp;omega
  go_loopw[4,9] (fun ov lv wr=>ov=.slice A n c/\lv=.slice EA 0 ec/\w4=wr) (fun _ _ _=>0)
  ·exact⟨rfl,by rw[bO],rfl⟩
  obtain⟨rfl,rfl,rfl⟩:=hrel;go_wp2
  go_ret2
  rw[ah.1]
  first|exact⟨_,_,_,rfl,ai.1⟩|exact⟨_,ai.1⟩
 obtain⟨R,rfl,bL,b7⟩:=aW.1.toWin 1 rfl (by omega);have aY:=Hd b7;clear b7 aW bL
 go_loopw[4,9] (fun ov lv wr=>∃(O:List Blk) (L:List LeT) (A:Oh) (n c o Z:Nat),ov=.slice A n c/\lv=.slice (some ⟨R,o,none⟩) L.length Z/\n+L.length<=500/\O.length=n/\(∀x∈L,eB l x)/\PB=O++eY l L.length L/\aD W9 wr [.cel (aa O) (.slice A n c),nU R o Z L]) (fun _ lv _=>match lv with | .slice _ n _=>n|_=>0)
 ·exact⟨O0,E0,_,_,_,0,ec,rfl,by rw[au],by omega,(aY.1.rd 0 rfl).blkN,cx.1,aR.1,aY.1⟩
 obtain⟨O,L,A,n,c,o,Z,rfl,rfl,dv,aE,a3,bD,hs⟩:=hrel;obtain⟨D,aV,aR,aq⟩:=hd4 hs a3 bD aE;clear hs a3 bD aE
 cases L with
 | nil =>
  have cm:Hv (PB=O):=Hd<|by show _=_;rw[aR.1];exact List.append_nil _
  rw[←cm.1]at D aq;by_cases bG:n<=64
  ·have cy:decide (n>64)=false:=by simp;omega
   have a5:decide ((n:Int)>64)=false:=by simp;omega
   have ah:Hv (fM l=(PB,true)):=Hd<|by show _=_;rw[bm.1,if_pos (by rw[aq.1];exact bG)]
   have ai:=Hd (((D.1.sub (qs:=[_]) (List.sublist_append_left [_] [_]))).lowerC ad.1 (lo:=_) (hi:=_) ad.1.size (Nat.le_refl _) (Chg.refl' _ _ _));go_wp2
   go_ret2
   rw[ah.1]
   first|exact⟨_,_,_,rfl,ai.1⟩|exact⟨_,ai.1⟩
  ·have cy:decide (n>64)=true:=by simp;omega
   have a5:decide ((n:Int)>64)=true:=by simp;omega
   have ah:Hv (fM l=([],false)):=Hd<|by show _=_;rw[bm.1,if_neg (by rw[aq.1];exact bG)]
   have ai:=Hd ((aD.nil (aA ad.1 D.1.bel)).pushNil 89 3);go_wp2
   go_ret2
   rw[ah.1]
   first|exact⟨_,_,_,rfl,ai.1⟩|exact⟨_,ai.1⟩
 | cons x L =>
  obtain⟨u,z⟩:=x;have hw:=(D.1.win 1 rfl).1;have lL:=(D.1.win 1 rfl).2;obtain⟨w0,w1⟩:=hw.cell (j:=0) (by simp);rw[Nat.zero_mul,Nat.add_zero]at w0 w1;have w0:wr.cell? ⟨R,o,none⟩=some (.int .i64 u):=w0;have w1:wr.cell? ⟨R,o+1,none⟩=some (.int .i64 z):=w1;have a7:Hv (eB l ⟨u,z⟩):=Hd<|aV.1 _ (by simp)
  have ca:Hv (eY l (L.length+1) (⟨u,z⟩::L)=if 0<kW l ⟨u,z⟩ L then⟨3,0,[⟨u,z⟩,L[(kW l ⟨u,z⟩ L-1).toNat]?.getD LeT.zero]⟩::eY l L.length (L.eraseIdx (kW l ⟨u,z⟩ L-1).toNat)else⟨3,0,[⟨u,z⟩]⟩::eY l L.length L):=Hd<|rfl
  have dL:decide ((L.length:Int)+1>0)=true:=decide_eq_true (by omega);have dj:(0:Int)<(L.length:Int)+1:=by omega
  clear hw;rw[List.length_cons]at *;have h0:=((D.1.pushBlk #[.int .i64 u,.int .i64 z] 94).consEs1 u z).pushBlk #[.int .i64 3,.int .i64 0,.slice (some ⟨wr.heap.size+1,0,none⟩) 1 1] 89;simp only[World.size_alloc]at h0;go_upto_region 23 with fail;clear w0 w1 lL;obtain⟨Q,bs⟩:∃g,wr.heap.size=g:=⟨_,rfl⟩;rw[bs]at h0
  (try rw[bs])
  have am:Hv (aD W9 (((wr.alloc (.cells #[.int .i64 u,.int .i64 z] 94)).alloc (.cells #[.int .i64 u,.int .i64 z] 94)).alloc (.cells #[.int .i64 3,.int .i64 0,.slice (some ⟨Q+1,0,none⟩) 1 1] 89)) [.cel (ay [⟨u,z⟩]) (.slice (some ⟨Q+1,0,none⟩) 1 1),.cel (aa O) (.slice A n c),nU R o Z (⟨u,z⟩::L),.blk Q #[.int .i64 u,.int .i64 z] 94,.blk (Q+1+1) #[.int .i64 3,.int .i64 0,.slice (some ⟨Q+1,0,none⟩) 1 1] 89]):=Hd h0;clear h0 bs;generalize ((wr.alloc (.cells #[.int .i64 u,.int .i64 z] 94)).alloc (.cells #[.int .i64 u,.int .i64 z] 94)).alloc (.cells #[.int .i64 3,.int .i64 0,.slice (some ⟨Q+1,0,none⟩) 1 1] 89)=w5 at *;have G:=Hd (aF am.1.bel U.1);have a8:=Hd (aA ad.1 am.1.bel);obtain⟨n0,n1,n2,n3,nl⟩:=bA G.1;obtain⟨y0,y1,yl⟩:=iC (am.1.blk 3 rfl).1;go_wp2_with fail;refine(xh l SA LA OA sn sc ln lc on oc u z _ (HN.1.below a8.1) HF.1 a7.1).mono ?_;rintro _ w6 ⟨CA,cn,cc,rfl,o6,b6⟩;have dt:=o6.len;have cI:=Hd (am.1.pushOwn b6 o6);clear o6 b6 n0 n1 n2 n3 nl y0 y1 yl G am;go_wp2
  go_loopw[13,14,15] (fun bv mv iv wr=>∃k:Nat,k<=L.length/\bv=.int .i64 (eF l ⟨u,z⟩ L k).1/\mv=.int .i64 (eF l ⟨u,z⟩ L k).2/\iv=.int .i64 ((k:Int)+1)/\aD W9 wr [.cel (ay [⟨u,z⟩]) (.slice (some ⟨Q+1,0,none⟩) 1 1),.cel (aa O) (.slice A n c),nU R o Z (⟨u,z⟩::L),.blk Q #[.int .i64 u,.int .i64 z] 94,.blk (Q+1+1) #[.int .i64 3,.int .i64 0,.slice (some ⟨Q+1,0,none⟩) 1 1] 89,.cel (aI (mF l ⟨u,z⟩)) (.slice CA cn cc)]) (fun _ _ iv _=>L.length+1-(intOf iv).toNat)
  ·exact⟨0,by omega,rfl,rfl,rfl,cI.1⟩
  obtain⟨k,hk,rfl,rfl,rfl,hs⟩:=hrel;have D:=Hd hs;clear hs;by_cases ax:k<L.length
  ·have bh:decide ((k:Int)+1<(L.length:Int)+1)=true:=decide_eq_true (by omega);have hw:=(D.1.win 2 rfl).1.cell (j:=k+1) (by simp only[List.length_cons];omega);rw[List.getElem?_cons_succ]at hw;have bq:Hv (eB l (L[k]?.getD LeT.zero)):=Hd<|aV.1 _ (by rw[List.getElem?_eq_getElem ax];exact List.mem_cons_of_mem _ (List.getElem_mem ax))
   have bt:Hv (eF l ⟨u,z⟩ L (k+1)=if sS l ⟨u,z⟩ (L[k]?.getD LeT.zero)=true/\(eF l ⟨u,z⟩ L k).2<(pF l ⟨u,z⟩ (L[k]?.getD LeT.zero):Int)then((k:Int)+1,(pF l ⟨u,z⟩ (L[k]?.getD LeT.zero):Int))else eF l ⟨u,z⟩ L k):=Hd<|rfl
   have bP:Hv (∀v:World,sQ v R o Z (⟨u,z⟩::L)→v.cell? ⟨R,o+(k+1)*2,none⟩=some (.int .i64 (L[k]?.getD LeT.zero).lut)/\v.cell? ⟨R,o+(k+1)*2+1,none⟩=some (.int .i64 (L[k]?.getD LeT.zero).ff)):=Hd<|fun v h=>by
    have h1:=h.cell (j:=k+1) (by simp only[List.length_cons];omega);rw[List.getElem?_cons_succ]at h1;exact h1
   generalize L[k]?.getD LeT.zero=y at *;obtain⟨K,J⟩:=y;simp only at hw;have B:Hv (∀(w':World) (ps:List Pc),aD W9 w' ps→ps[2]?=some (nU R o Z (⟨u,z⟩::L))→ps[3]?=some (.blk Q #[.int .i64 u,.int .i64 z] 94)→(w'.cell? ⟨Q,0,none⟩=some (.int .i64 u)/\w'.cell? ⟨Q,1,none⟩=some (.int .i64 z)/\w'.cell? ⟨R,o+(k+1)*2,none⟩=some (.int .i64 K)/\w'.cell? ⟨R,o+(k+1)*2+1,none⟩=some (.int .i64 J))):=Hd<|fun v ps h h2 h3=>⟨aC (k:=0) (h.blk 3 h3).1 rfl,aC (k:=1) (h.blk 3 h3).1 rfl,bP.1 v (h.win 2 h2).1⟩
   obtain⟨w0,w1⟩:=hw;obtain⟨x0,x1,lx⟩:=iC (D.1.blk 3 rfl).1;have lL:=(D.1.win 2 rfl).2;have k0:(0:Int)<=(k:Int)+1:=by omega
   have k1:(k:Int)+1<(L.length:Int)+1:=by omega
   have k5:((k:Int)+1).toNat=k+1:=by omega
   go_upto_region 28 with fail;have W:=Hd D.1.drew
   go_cut[16] (fun cv w'=>∃gC gD,cv=.pointer (some ⟨gC,0,none⟩)/\aD W9 w' [.cel (ay [⟨u,z⟩,⟨K,J⟩]) (.slice (some ⟨gD,0,none⟩) 2 2),.cel (ay [⟨u,z⟩]) (.slice (some ⟨Q+1,0,none⟩) 1 1),.cel (aa O) (.slice A n c),nU R o Z (⟨u,z⟩::L),.blk Q #[.int .i64 u,.int .i64 z] 94,.blk (Q+1+1) #[.int .i64 3,.int .i64 0,.slice (some ⟨Q+1,0,none⟩) 1 1] 89,.cel (aI (mF l ⟨u,z⟩)) (.slice CA cn cc),.blk gC #[.int .i64 3,.int .i64 0,.slice (some ⟨gD,0,none⟩) 2 2] 89])
   case first =>
    go_region_held3 (fun w'=>w'.cell? ⟨Q,0,none⟩=some (.int .i64 u)/\w'.cell? ⟨Q,1,none⟩=some (.int .i64 z)/\w'.cell? ⟨R,o+(k+1)*2,none⟩=some (.int .i64 K)/\w'.cell? ⟨R,o+(k+1)*2+1,none⟩=some (.int .i64 J))
     (first|exact B.1 _ _ W.1 rfl rfl|exact B.1 _ _ (D.1.pushBlk #[.int .i64 u,.int .i64 z,.int .i64 K,.int .i64 J] 94).drew rfl rfl|exact B.1 _ _ (D.1.pushBlk #[.int .i64 0,.int .i64 0,.slice none 0 0] 89).drew rfl rfl|exact B.1 _ _ ((D.1.pushBlk #[.int .i64 0,.int .i64 0,.slice none 0 0] 89).pushBlk #[.int .i64 u,.int .i64 z,.int .i64 K,.int .i64 J] 94).drew rfl rfl|exact B.1 _ _ ((D.1.pushBlk #[.int .i64 u,.int .i64 z,.int .i64 K,.int .i64 J] 94).pushBlk #[.int .i64 0,.int .i64 0,.slice none 0 0] 89).drew rfl rfl|exact B.1 _ _ ((D.1.pushBlk #[.int .i64 3,.int .i64 0,.slice (some ⟨wr.heap.size+1,0,none⟩) 2 2] 89).pushBlk #[.int .i64 u,.int .i64 z,.int .i64 K,.int .i64 J] 94).drew rfl rfl|exact B.1 _ _ (((((D.1.pushBlk #[.int .i64 0,.int .i64 0,.slice none 0 0] 89).pushBlk #[.int .i64 u,.int .i64 z,.int .i64 K,.int .i64 J] 94).put 6 rfl 0 _).put 6 rfl 1 _).put 6 rfl 2 _).drew rfl rfl|exact B.1 _ _ (((((D.1.pushBlk #[.int .i64 u,.int .i64 z,.int .i64 K,.int .i64 J] 94).pushBlk #[.int .i64 0,.int .i64 0,.slice none 0 0] 89).put 7 rfl 0 _).put 7 rfl 1 _).put 7 rfl 2 _).drew rfl rfl|exact B.1 _ _ ((D.1.pushBlk #[.int .i64 u,.int .i64 z,.int .i64 K,.int .i64 J] 94).pushBlk #[.int .i64 3,.int .i64 0,.slice (some ⟨wr.heap.size,0,none⟩) 2 2] 89).drew rfl rfl)
     (first|fail)
    all_goals
     go_wp2;go_meet
     first
      | exact⟨wr.heap.size+1,wr.heap.size,rfl,by have h:=((D.1.consEs2 u z K J).pushBlk #[.int .i64 3,.int .i64 0,.slice (some ⟨wr.heap.size,0,none⟩) 2 2] 89).drew;rw[World.size_alloc]at h;exact h⟩
      | exact⟨wr.heap.size,wr.heap.size+1,rfl,by have h:=((D.1.pushBlk #[.int .i64 3,.int .i64 0,.slice (some ⟨wr.heap.size+1,0,none⟩) 2 2] 89).consEs2 u z K J).drew;rw[World.size_alloc]at h;exact h⟩
   obtain⟨gC,gD,rfl,bg⟩:=hcut;have aT:=Hd bg;have G:=Hd (aF bg.bel U.1);have ag:Hv (∀(w':World) (ps:List Pc),aD W9 w' ps→ps[3]?=some (nU R o Z (⟨u,z⟩::L))→(K4 w' gN (.int .i64 l.inputs) (.slice SA sn sc) (.slice LA ln lc) (.slice OA on oc) (w'.cell? ⟨R,o+(k+1)*2,none⟩=some (.int .i64 K)/\w'.cell? ⟨R,o+(k+1)*2+1,none⟩=some (.int .i64 J)))):=Hd<|fun v ps h h3=>⟨aC (k:=0) (aF h.bel U.1) rfl,aC (k:=1) (aF h.bel U.1) rfl,aC (k:=2) (aF h.bel U.1) rfl,aC (k:=3) (aF h.bel U.1) rfl,bP.1 v (h.win 3 h3).1⟩
   clear x0 x1 lx w0 w1 lL bg W B D;obtain⟨n0,n1,n2,n3,w0,w1⟩:=ag.1 _ _ aT.1 rfl;have nl:=aH G.1;have lL:=(aT.1.win 3 rfl).2;have cO:=Hd (fun(v:World) (hv:Below W9.heap.size W9 v)=>xh l SA LA OA sn sc ln lc on oc K J v (HN.1.below (aA ad.1 hv)) HF.1 bq.1);have dP:(mF l ⟨K,J⟩).length<=5:=Nat.le_trans (mh _ _) (by have:=pG HF.1 bq.1;omega);have dk:(mF l ⟨u,z⟩).length<=5:=Nat.le_trans (mh _ _) (by have:=pG HF.1 a7.1;omega);have W:=Hd aT.1.drew;go_upto_region 29 with fail
   go_cut[17] (fun nv w'=>nv=.int .i64 (pF l ⟨u,z⟩ ⟨K,J⟩:Int)/\aD W9 w' [.cel (ay [⟨u,z⟩,⟨K,J⟩]) (.slice (some ⟨gD,0,none⟩) 2 2),.cel (ay [⟨u,z⟩]) (.slice (some ⟨Q+1,0,none⟩) 1 1),.cel (aa O) (.slice A n c),nU R o Z (⟨u,z⟩::L),.blk Q #[.int .i64 u,.int .i64 z] 94,.blk (Q+1+1) #[.int .i64 3,.int .i64 0,.slice (some ⟨Q+1,0,none⟩) 1 1] 89,.cel (aI (mF l ⟨u,z⟩)) (.slice CA cn cc),.blk gC #[.int .i64 3,.int .i64 0,.slice (some ⟨gD,0,none⟩) 2 2] 89])
   case first =>
    go_region_held3 (fun w'=>K4 w' gN (.int .i64 l.inputs) (.slice SA sn sc) (.slice LA ln lc) (.slice OA on oc) (w'.cell? ⟨R,o+(k+1)*2,none⟩=some (.int .i64 K)/\w'.cell? ⟨R,o+(k+1)*2+1,none⟩=some (.int .i64 J)))
     (first|exact ag.1 _ _ W.1 rfl)
     ((first
      | (go_at_call 180;(refine(cO.1 _ W.1.bel).mono ?_);rintro _ v8 ⟨YA,yn,yc,rfl,o8,b8⟩;have dE:=o8.len;replace W:=Hd (W.1.pushOwn b8 o8);clear o8 b8)
      | (go_at_call 181;(refine(yL CA YA cn cc yn yc (mF l ⟨u,z⟩) (mF l ⟨K,J⟩) _ (W.1.ints 6 rfl) (W.1.ints 8 rfl) (by omega) (by omega)).mono ?_);rintro _ _ ⟨rfl,rfl⟩)))
    all_goals
     go_wp2;go_meet;exact⟨rfl,W.1.sub (List.sublist_append_left [_,_,_,_,_,_,_,_] [_])⟩
   obtain⟨rfl,aj⟩:=hcut;have I:=Hd aj;have G:=Hd (aF aj.bel U.1);have a8:=Hd (aA ad.1 aj.bel)
   have cP:Hv (nA l ⟨3,0,[⟨u,z⟩,⟨K,J⟩]⟩) :=Hd<| .inr (.inr (.inr ⟨rfl,fun e he=>by
    rcases List.mem_cons.1 he with rfl|he
    ·exact a7.1
    rw[List.mem_singleton.1 he];exact bq.1⟩))
   have bd:Hv (sS l ⟨u,z⟩ ⟨K,J⟩=decide ((iU l ⟨3,0,[⟨u,z⟩,⟨K,J⟩]⟩).length<=5)):=Hd<|rfl
   clear n0 n1 n2 n3 nl w0 w1 lL aj W aT ag;obtain⟨n0,n1,n2,n3,nl⟩:=bA G.1;obtain⟨z0,z1,z2,zl⟩:=j6 (I.1.blk 7 rfl).1;go_wp2_with fail;refine(sG l SA LA OA sn sc ln lc on oc 3 0 [⟨u,z⟩,⟨K,J⟩] (some ⟨gD,0,none⟩) 2 2 _ (HN.1.below a8.1) HF.1 (I.1.rd 0 rfl) cP.1 (by omega)).mono ?_;rintro _ w9 ⟨PA,pn,pc,rfl,o9,b9⟩;have cs:=o9.len;rw[cs]at bd;have bF:=Hd (I.1.below b9);have bf:=Hd (bF.1.tail.sub (List.sublist_append_left [_,_,_,_,_,_] [_]));clear o9 b9 n0 n1 n2 n3 nl z0 z1 z2 zl;by_cases h5:pn<=5
   ·have d5:decide ((pn:Int)<=5)=true:=by simp;omega
    by_cases av:(eF l ⟨u,z⟩ L k).2<(pF l ⟨u,z⟩ ⟨K,J⟩:Int)
    ·have dg:decide ((pF l ⟨u,z⟩ ⟨K,J⟩:Int)>(eF l ⟨u,z⟩ L k).2)=true:=decide_eq_true av;have ak:Hv (eF l ⟨u,z⟩ L (k+1)=((k:Int)+1,(pF l ⟨u,z⟩ ⟨K,J⟩:Int))):=Hd<|by show _=_;rw[bt.1,if_pos ⟨by rw[bd.1];exact decide_eq_true h5,av⟩]
     clear av;go_wp2;go_roundw
     ·exact⟨k+1,by omega,by rw[ak.1],by rw[ak.1],by go_num,bf.1⟩
     simp[intOf];omega
    have dg:decide ((pF l ⟨u,z⟩ ⟨K,J⟩:Int)>(eF l ⟨u,z⟩ L k).2)=false:=decide_eq_false av;have ak:Hv (eF l ⟨u,z⟩ L (k+1)=eF l ⟨u,z⟩ L k):=Hd<|by show _=_;rw[bt.1,if_neg (fun h=>av h.2)]
    clear av;go_wp2;go_roundw
    ·exact⟨k+1,by omega,by rw[ak.1],by rw[ak.1],by go_num,bf.1⟩
    simp[intOf];omega
   have d5:decide ((pn:Int)<=5)=false:=by simp;omega
   have ak:Hv (eF l ⟨u,z⟩ L (k+1)=eF l ⟨u,z⟩ L k):=Hd<|by show _=_;rw[bt.1,if_neg (fun h=>h5 (of_decide_eq_true (bd.1.symm.trans h.1)))]
   go_wp2;go_roundw
   ·exact⟨k+1,by omega,by rw[ak.1],by rw[ak.1],by go_num,bf.1⟩
   simp[intOf];omega
  have ct:k=L.length:=by omega
  have bh:decide ((L.length:Int)+1<(L.length:Int)+1)=false:=by simp
  subst ct;have b0:Hv (kW l ⟨u,z⟩ L=(eF l ⟨u,z⟩ L L.length).1):=Hd<|rfl
  have ds:(eF l ⟨u,z⟩ L L.length).1=-1∨1<=(eF l ⟨u,z⟩ L L.length).1/\(eF l ⟨u,z⟩ L L.length).1<=(L.length:Int):=by
   rcases ww l ⟨u,z⟩ L L.length with h|h
   ·exact .inl (by rw[h])
   exact .inr ⟨h.1,h.2.1⟩
  generalize (eF l ⟨u,z⟩ L L.length).1=bv at *;generalize (eF l ⟨u,z⟩ L L.length).2=mv at *
  have dJ:L.length+1<=Z:=by
   obtain⟨_,_,_,h3,_⟩:=(D.1.win 2 rfl).1;exact h3
  go_upto_if 109 with fail
  go_cut[9] (fun lv w'=>∃(E L':List LeT) (gE nE cE:Nat),lv=.slice (some ⟨R,o,none⟩) (L'.length+1) Z/\L'.length<=L.length/\(∀y∈L',eB l y)/\eY l (L.length+1) (⟨u,z⟩::L)=⟨3,0,E⟩::eY l L'.length L'/\aD W9 w' [.cel (ay E) (.slice (some ⟨gE,0,none⟩) nE cE),.cel (aa O) (.slice A n c),nU R o Z (⟨u,z⟩::L'),.blk Q #[.int .i64 u,.int .i64 z] 94,.blk (Q+1+1) #[.int .i64 3,.int .i64 0,.slice (some ⟨gE,0,none⟩) nE cE] 89])
  case first =>
   by_cases hb:0<bv
   ·obtain⟨b,rfl⟩:∃b:Nat,bv=(b:Int):=⟨bv.toNat,by omega⟩;have bl:1<=b:=by omega
    have dO:b<=L.length:=by omega
    have cK:decide ((b:Int)>0)=true:=decide_eq_true hb;have dG:decide (0<b)=true:=decide_eq_true bl;have hw:=(D.1.win 2 rfl).1.cell (j:=b) (by simp only[List.length_cons];omega);have au:(L.eraseIdx (b-1)).length=L.length-1:=by rw[List.length_eraseIdx,if_pos (by omega)]
    have aw:Hv (eY l (L.length+1) (⟨u,z⟩::L)=⟨3,0,[⟨u,z⟩,L[b-1]?.getD LeT.zero]⟩::eY l (L.eraseIdx (b-1)).length (L.eraseIdx (b-1))):=Hd<|by
     show _=_;rw[ca.1,b0.1,if_pos hb,show((b:Int)-1).toNat=b-1 by omega,rD l (n:=L.length) (m:=(L.eraseIdx (b-1)).length) (by omega) (Nat.le_refl _)]
    have aO:Hv (∀y∈L.eraseIdx (b-1),eB l y):=Hd<|fun y hy=>aV.1 _ (List.mem_cons_of_mem _ (List.mem_of_mem_eraseIdx hy))
    rw[show(⟨u,z⟩::L)[b]?=L[b-1]? by rw[show b=b-1+1 by omega,List.getElem?_cons_succ];rfl]at hw;generalize L[b-1]?.getD LeT.zero=y at *;obtain⟨K,J⟩:=y;simp only at hw;obtain⟨w0,w1⟩:=hw;have lL:=(D.1.win 2 rfl).2;obtain⟨-,-,z2,zl⟩:=j6 (D.1.blk 4 rfl).1;have k0:(0:Int)<=(b:Int):=by omega
    have k1:(b:Int)<(L.length:Int)+1:=by omega
    go_upto_region 33 with fail
    go_cut[] (fun w'=>∃g9 cap,aD W9 w' [.cel (ay [⟨u,z⟩,⟨K,J⟩]) (.slice (some ⟨g9,0,none⟩) 2 cap),.cel (aa O) (.slice A n c),nU R o Z (⟨u,z⟩::L),.blk Q #[.int .i64 u,.int .i64 z] 94,.blk (Q+1+1) #[.int .i64 3,.int .i64 0,.slice (some ⟨g9,0,none⟩) 2 cap] 89])
    case first =>
     have aY:=Hd ((D.1.alloc (.cells #[.int .i64 K,.int .i64 J] 94)).drew.consLeV K J)
     go_region_law ((refine iL rfl _ _ _ 94 (by rfl) cW _ 2 16 Tryz.underlying87 aX.1.1 aX.1.2.1 aX.1.2.2.1 aX.1.2.2.2 rfl (by decide) (by decide) _ aY.1 1 0 (by decide) 1 1 _ (some ⟨Q+1,0,none⟩) (([⟨u,z⟩]:List LeT).flatMap LeT.cells) _ #[.int .i64 K,.int .i64 J] _ rfl rfl (by rfl) (by rfl) (aG _ (.cells #[.int .i64 K,.int .i64 J] 94)) rfl (by omega) ?_);intro g9 cap w9 S9 V;have l9:=aC (k:=2) (S9.blk 5 rfl).1 rfl;have f9:=aN (S9.blk 5 rfl).1 2;have q9:=aH (S9.blk 5 rfl).1;have I:=Hd S9;clear S9 V)
     all_goals
      go_wp2;go_meet;exact⟨_,_,(I.1.put 5 rfl 2 _).tail.sub (List.sublist_append_left [_,_,_,_,_] [_])⟩
    obtain⟨g9,c3,aj⟩:=hcut;obtain⟨I,bE⟩:=hd2 aj aj.drew;clear aj w0 w1 lL z2 zl k1 D;go_upto_region 34 with fail;have ek:IntKind.i64.wrap ((b:Int)+1)=(b:Int)+1:=IntWalk.i64_in _ (by omega);have k2:(0:Int)<=(b:Int)+1:=by omega
    have k3:(b:Int)+1<=(L.length:Int)+1:=by omega
    have k4:(b:Int)<=(Z:Int):=by omega
    have k5:((b:Int)+1).toNat=b+1:=by omega
    have k6:(b:Int)<=(L.length:Int)+1:=by omega
    have k7:(b:Int)<=(b:Int)+1:=by omega
    have k8:(b:Int)<=(L.length:Int):=by omega
    have k9:(L.length:Int)+1<=(Z:Int):=by omega
    have dA:¬Z=0:=by omega
    by_cases cS:Z=b+1
    ·subst cS
     go_region_held3 (fun _=>True)
      (first|exact trivial)
      ((first
       | (refine xg rfl _ _ (by rfl) _ bE.1 2 b _ R o (b+1) _ _ (⟨u,z⟩::L) rfl (by simp only[List.length_cons];omega) (by rfl) (by rfl) (by simp only[List.length_cons];omega) (fun h=>absurd h (by omega)) ?_;intro w8 S8;have bo:=Hd S8;clear S8)))
     all_goals
      go_wp2;go_meet;have h:=bo.1;rw[zQ _ _ bl]at h;exact⟨_,_,_,_,_,by rw[au];congr 1;omega,by omega,aO.1,aw.1,h⟩
    skip
    go_region_held3 (fun _=>True)
     (first|exact trivial)
     ((first
      | (refine xg rfl _ _ (by rfl) _ bE.1 2 b _ R o Z _ _ (⟨u,z⟩::L) rfl (by simp only[List.length_cons];omega) (by rfl) (by rfl) (by simp only[List.length_cons];omega) (fun _=>rfl) ?_;intro w8 S8;have bo:=Hd S8;clear S8)))
    all_goals
     go_wp2;go_meet;have h:=bo.1;rw[zQ _ _ bl]at h;exact⟨_,_,_,_,_,by rw[au];congr 1;omega,by omega,aO.1,aw.1,h⟩
   have cK:decide (bv>0)=false:=decide_eq_false hb
   have aw:Hv (eY l (L.length+1) (⟨u,z⟩::L)=⟨3,0,[⟨u,z⟩]⟩::eY l L.length L):=Hd<|by
    show _=_;rw[ca.1,b0.1,if_neg hb]
   go_wp2;go_meet;exact⟨_,L,_,_,_,rfl,Nat.le_refl _,fun y hy=>aV.1 _ (List.mem_cons_of_mem _ hy),aw.1,D.1.sub (List.sublist_append_left [_,_,_,_,_] [_])⟩
  obtain⟨E,L',gE,nE,cE,rfl,dl,b2,cd,hs⟩:=hcut;have a4:Hv (PB=(O++[⟨3,0,E⟩])++eY l L'.length L'):=Hd<|by show _=_;rw[aR.1,cd,List.append_assoc];rfl
  have aO:=Hd b2;have bp:=Hd (hs.winTail 2 rfl);have bW:Hv ((O++[(⟨3,0,E⟩:Blk)]).length=n+1):=Hd<|by show _=_;rw[List.length_append,aq.1];rfl
  obtain⟨z0,z1,z2,zl⟩:=j6 (hs.blk 4 rfl).1;clear hs cd b2 D;have k1:(1:Int)<=(L'.length:Int)+1:=by omega
  by_cases b4:Z=1
  ·subst b4
   go_wp2_with (at_builtin;refine af rfl _ _ 42 89 rfl aP _ 3 40 Tryz.underlying42 H.1.1 H.1.2.1 H.1.2.2.1 H.1.2.2.2 rfl (by decide) (by decide) _ ((bp.1.alloc _).toBlk 0 3 0 rfl) 1 0 (by decide) n c _ A (O.flatMap Blk.cells) _ #[.int .i64 3,.int .i64 0,.slice (some ⟨gE,0,none⟩) nE cE] _ rfl rfl rfl rfl (aG _ _) rfl (by omega) ?_;intro g9 cap w9 S9 V;have I:=Hd (S9.tail.sub (List.sublist_append_left [_,_] [_,_]));clear S9 V)
   go_roundw
   ·exact⟨_,L',_,n+1,_,o,0,rfl,rfl,by omega,bW.1,aO.1,a4.1,by rw[jq];exact I.1⟩
   show L'.length<L.length+1;omega
  have h2:=bp.1;rw[if_neg b4]at h2;have cg:=Hd h2;clear bp h2
  go_wp2_with (at_builtin;refine af rfl _ _ 42 89 rfl aP _ 3 40 Tryz.underlying42 H.1.1 H.1.2.1 H.1.2.2.1 H.1.2.2.2 rfl (by decide) (by decide) _ ((cg.1.alloc _).toBlk 0 3 0 rfl) 1 0 (by decide) n c _ A (O.flatMap Blk.cells) _ #[.int .i64 3,.int .i64 0,.slice (some ⟨gE,0,none⟩) nE cE] _ rfl rfl rfl rfl (aG _ _) rfl (by omega) ?_;intro g9 cap w9 S9 V;have I:=Hd (S9.tail.sub (List.sublist_append_left [_,_] [_,_]));clear S9 V)
  go_roundw
  ·exact⟨_,L',_,n+1,_,o+2,Z-1,rfl,rfl,by omega,bW.1,aO.1,a4.1,by rw[jq];exact I.1⟩
  show L'.length<L.length+1;omega
end Go.Proofs.YtofihjoanjkdmaaGreat
