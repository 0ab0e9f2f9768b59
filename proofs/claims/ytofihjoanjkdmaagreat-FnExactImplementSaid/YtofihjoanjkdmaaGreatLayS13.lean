/- Sorting by insertion: the reference's l27Sort. -/
import Derived.Lib.SliceRun
import Derived.Test.YtofihjoanjkdmaaGreatHeldW
import Derived.Test.YtofihjoanjkdmaaGreatLayG5
import Derived.Test.YtofihjoanjkdmaaGreatLayS11
import Derived.Test.YtofihjoanjkdmaaGreatLayS7
namespace Go.Proofs.YtofihjoanjkdmaaGreat
set_option maxHeartbeats 8000000
set_option maxRecDepth 100000
open Go.RowKit
def MS(ys:List Int)(i k:Nat):Prop:=∃a x b rest,ys=a++x::(b++rest)/\a.length=k/\k+b.length=i/\(a++b).Pairwise (·<=·)/\∀y∈b,x<=y
theorem JB{ys:List Int}{i:Nat}(h:(ys.take i).Pairwise (·<=·))(hi:i<ys.length):MS ys i i:=by
 have e:ys=ys.take i++ys[i]::([]++ys.drop (i+1)):=by simp
 exact⟨ys.take i,ys[i],[],ys.drop (i+1),e,by simp;omega,by simp,by simpa using h,by simp⟩
theorem CJ{ys:List Int}{i k:Nat}(h:MS ys i k)(hk:k=0∨ys[k-1]?.getD 0<=ys[k]?.getD 0):(ys.take (i+1)).Pairwise (·<=·):=by
 obtain⟨a,x,b,rest,rfl,rfl,rfl,hp,hb⟩:=h
 have e:(a++x::(b++rest)).take (a.length+b.length+1)=a++x::b:=by
  rw[show a++x::(b++rest)=(a++x::b)++rest by simp,List.take_left' (by simp;omega)]
 rw[e];rw[List.pairwise_append]at hp ⊢;rw[List.pairwise_cons];refine⟨hp.1,⟨hb,hp.2.1⟩,fun u g v B=>?_⟩
 have q:u<=x:=by
  rcases hk with h0|h0
  ·have:=List.eq_nil_of_length_eq_zero h0;subst this;simp at g
  have hl:0<a.length:=List.length_pos_of_mem g;rw[List.getElem?_append_left (by omega),List.getElem?_append_right (Nat.le_refl _),Nat.sub_self,List.getElem?_cons_zero,Option.getD_some,List.getElem?_eq_getElem (by omega),Option.getD_some]at h0;obtain⟨j,hj,rfl⟩:=List.getElem_of_mem g
  rcases Nat.lt_or_ge j (a.length-1)with z|D
  ·have:=List.pairwise_iff_getElem.1 hp.1 j (a.length-1) hj (by omega) z;omega
  have:j=a.length-1:=by omega
  subst this;exact h0
 rcases List.mem_cons.1 B with rfl|B
 ·exact q
 exact hp.2.2 u g v B
theorem KY{ys:List Int}{i k:Nat}(h:MS ys i k)(h0:0<k)(j:ys[k]?.getD 0<ys[k-1]?.getD 0) :
  MS ((ys.set k (ys[k-1]?.getD 0)).set (k-1) (ys[k]?.getD 0)) i (k-1)/\((ys.set k (ys[k-1]?.getD 0)).set (k-1) (ys[k]?.getD 0)).Perm ys:=by
 obtain⟨a,x,b,rest,rfl,rfl,rfl,hp,hb⟩:=h;obtain⟨a,y,rfl⟩:∃q y,a=q++[y]:=⟨a.dropLast,a.getLast (by rintro rfl;simp at h0),(List.dropLast_concat_getLast _).symm⟩
 have e1:(a++[y]++x::(b++rest))[(a++[y]).length]?.getD 0=x:=by
  rw[List.getElem?_append_right (Nat.le_refl _),Nat.sub_self];rfl
 have e2:(a++[y]++x::(b++rest))[(a++[y]).length-1]?.getD 0=y:=by
  rw[List.getElem?_append_left (by simp)];simp
 rw[e1,e2]at j ⊢
 have e3:((a++[y]++x::(b++rest)).set (a++[y]).length y).set ((a++[y]).length-1) x=a++x::(y::b++rest):=by
  rw[List.set_append,if_neg (by omega),Nat.sub_self,List.set_cons_zero,List.append_assoc,List.set_append,if_neg (by simp)];simp
 rw[e3];refine⟨⟨a,x,y::b,rest,rfl,by simp,by simp;omega,by simpa using hp,fun z g=>?_⟩,?_⟩
 ·rcases List.mem_cons.1 g with rfl|g
  ·omega
  exact hb z g
 rw[List.append_assoc];refine List.Perm.append_left a ?_;simp only[List.cons_append];exact List.Perm.swap y x (b++rest)
theorem qG(A:Oh)(n c:Nat)(xs:List Int)(w:World)(h:bT w A n xs)(hn:n<=1048576) :
  Calls Tryz.prog 235 #[.slice A n c] w fun e w'=>∃A' c',e=.returned (.slice A' n c')/\(∃ys,Own w.heap.size w' A' n c' ys/\ys.Perm xs/\ys.Pairwise (·<=·))/\Below w.heap.size w w':=by
 obtain⟨HI,W⟩:=hd2 h h.1;clear h;go_enter Tryz.func235,Tryz.ntmps235
 go_wp2_with (at_builtin;refine dY rfl _ _ rfl w.heap.size _ 0 0 [] rfl (Own.new0 (Nat.le_refl _)) A n c _ rfl (HI.1.below (aB (Below.refl _ _) _)) (by omega) (by simp) (aB (Below.refl _ _) _) ?_;rintro A1 c1 w1 j b1 -;rw[Nat.zero_add,List.nil_append]at j)
 by_cases h1:n<=1
 ·have O1:=Hd j;have hd:=dF (by omega:n<=1);clear j
  go_loopw[4] (fun i wr=>i=.int .i64 1/\wr=w1) (fun _ _=>0)
  ·exact⟨rfl,rfl⟩
  obtain⟨rfl,rfl⟩:=hrel;go_wp2;go_ret;refine⟨A1,c1,rfl,⟨xs,O1.1,List.Perm.refl _,?_⟩,b1⟩
  match xs,W.1 with
  | [],_=>exact List.Pairwise.nil
  | [x],_=>simp
  | x::y::l,hl=>simp at hl;omega
 obtain⟨g,cur,rfl,R,_⟩:=j.block (by omega);obtain⟨O1,B1⟩:=hd2 j b1;have aq:=(j.lt _ rfl).2;clear j b1
 go_loopw[4] (fun i wr=>∃(m:Nat) (ys:List Int),1<=m/\m<=n/\i=.int .i64 m/\Own w.heap.size wr (some ⟨g,0,none⟩) n c1 ys/\ys.Perm xs/\(ys.take m).Pairwise (·<=·)/\Below w.heap.size w wr) (fun i _=>n-(intOf i).toNat)
 ·exact⟨1,xs,by omega,by omega,rfl,O1.1,List.Perm.refl _,by cases xs <;> simp,B1.1⟩
 obtain⟨m,ys,av,hm,rfl,ho,hp,hs,hb⟩:=hrel;obtain⟨G,u,U,z,K⟩:=hd5 ho hp hs hb ho.len;clear ho hp hs hb;by_cases ag:m<n
 ·have Y:=dT (by omega:m<n);go_wp2
  go_loopw[5] (fun i wr=>∃(k:Nat) (ys:List Int),k<=m/\i=.int .i64 k/\Own w.heap.size wr (some ⟨g,0,none⟩) n c1 ys/\ys.Perm xs/\MS ys m k/\Below w.heap.size w wr) (fun i _=>(intOf i).toNat)
  ·exact⟨m,ys,Nat.le_refl _,rfl,G.1,u.1,JB U.1 (by rw[K.1];exact ag),z.1⟩
  obtain⟨k,ys,hk,rfl,ho,hp,hs,hb⟩:=hrel;obtain⟨G,u,U,z⟩:=hd4 ho hp hs hb;by_cases I:k=0
  ·have ah:=Hd I;have af:decide ((k:Int)>0)=false:=by simp;omega
   have J:=dF (by omega:k<=0);have H:decide (0<k)=false:=by simp;omega
   clear ho hp hs hb I;go_wp2_with fail
   go_quiet (fail)
   go_wp2;go_roundw
   ·exact⟨m+1,ys,by omega,by omega,by go_num,G.1,u.1,CJ U.1 (.inl ah.1),ae z.1 _⟩
   simp[intOf];omega
  have af:decide ((k:Int)>0)=true:=by simp;omega
  have J:=dT (by omega:0<k);have H:decide (0<k)=true:=by simp;omega
  obtain⟨ca,fa⟩:=ho.cellAt (k:=k) (by omega);obtain⟨cb,fb⟩:=ho.cellAt (k:=k-1) (by omega);have ao:=(ho.lt _ rfl).2;have D:=Hd (fun h=>KY hs (by omega) h);have V:=Hd (fun h=>CJ hs (.inr h));have ak:=Hd (fun x y=>(ho.stored (k:=k) (by omega) y).stored (k:=k-1) (by omega) x);generalize ys[k]?.getD 0=x at *;generalize ys[k-1]?.getD 0=y at *;have e4:IntKind.i64.wrap ((k:Int)-1)=(k:Int)-1:=IntWalk.i64_in _ (by omega);have e5:((k:Int)-1).toNat=k-1:=by omega
  obtain⟨i0,i1⟩:=ib (by omega:k<n);have i2:(0:Int)<=(k:Int)-1:=by omega
  have i3:(k:Int)-1<(n:Int):=by omega
  have ap:¬k=k-1:=by omega
  clear ho hp hs hb;by_cases q:x<y
  ·have Z:decide (x<y)=true:=by simpa using q
   go_wp2_with fail
   go_quiet (fail)
   go_wp2;go_roundw
   ·exact⟨k-1,_,by omega,by first|rfl|go_num|(congr 1;omega),(ak.1 x y).drewd,(D.1 q).2.trans u.1,(D.1 q).1,ae ((z.1.setCell (p:=⟨g,k,none⟩) R _).setCell (p:=⟨g,k-1,none⟩) R _) _⟩
   simp[intOf];omega
  have Z:decide (x<y)=false:=by simp;omega
  have Q:y<=x:=by omega
  go_wp2_with fail
  go_quiet (fail)
  go_wp2;go_roundw
  ·exact⟨m+1,ys,by omega,by omega,by go_num,G.1,u.1,V.1 Q,ae z.1 _⟩
  simp[intOf];omega
 have B:m=n:=by omega
 have aj:=Hd B;have Y:=dF (by omega:n<=m);clear B;go_wp2;go_ret;exact⟨_,c1,rfl,⟨ys,G.1,u.1,by have:=U.1;rwa[aj.1,List.take_of_length_le (by rw[K.1];exact Nat.le_refl _)]at this⟩,z.1⟩
theorem yF(d:Dev)(t p:Int)(w:World)(ht:ai d t=true)(Z:0<=p)(hp1:p<=10) :
  Calls Tryz.prog 209 #[.agg (dv d),.int .i64 t,.int .i64 p] w fun e w'=>e=.returned (.int .i64 (fB d t p))/\Below w.heap.size w w':=by
 have z:Hv (fB d t p=if ai d t=true/\0<=p/\p<eU (ah d t)then t*ag d+5+p else -1):=Hd<|rfl
 obtain⟨hd,u,V⟩:=aP.1 ht;have Y:=eu hd;have hT:=ak hd;have hp:=fT hd;have q:=iP d t;have W:=Hd (iB u (show t<=35 by omega) (show 0<=ag d by omega) hp.2);have J:=Hd ht;have ae:decide (p<0)=false:=by simp;omega
 clear ht hd;go_enter Tryz.func209,Tryz.ntmps209;go_wp2_with fail;refine(iG d t _ J.1).mono ?_;rintro e w2 ⟨rfl,j⟩;have H:=Hd (aA (aB (Below.refl _ _) _) j);have B:=j.size;simp only[World.size_alloc]at B;obtain⟨hcc,D⟩:=az j;clear j;generalize R:ah d t=K at *;have HK:=Hd R;clear R;have g:∃Q,eU K=Q:=⟨_,rfl⟩;obtain⟨Q,g⟩:=g;rw[g]at q z;have G:Hv (∀w,Calls Tryz.prog 233 #[.int .i64 K] w fun e w'=>e=.returned (.int .i64 Q)/\w=w'):=Hd<|fun w=>by have:=lh K w;rwa[g]at this
 clear g;by_cases af:p<Q
 ·have U:decide (p≥Q)=false:=by simp;omega
  go_wp2_with (go_at_call 233;refine(G.1 _).mono ?_;rintro e w' ⟨rfl,rfl⟩)
  refine(fe d _ (by omega) (by omega)).mono ?_;rintro e w3 ⟨rfl,I⟩;have B3:=Hd (aA H.1 I);have hM:=W.1;clear I hcc D;go_wp2;go_ret;exact⟨aQ (by rw[z.1,if_pos ⟨J.1,by omega,by omega⟩]),B3.1⟩
 have U:decide (p≥Q)=true:=by simp;omega
 go_wp2_with (go_at_call 233;refine(G.1 _).mono ?_;rintro e w' ⟨rfl,rfl⟩)
 go_ret;exact⟨aQ (by rw[z.1,if_neg];rintro⟨_,h0,h1⟩;omega),H.1⟩
theorem kK(d:Dev)(t r k:Int)(w:World)(hd:bQ d=true)(aj:t<=1099511627776)(u:0<=r)(q:r<=3)(ad:0<=k)(U:k<d.T) :
  Calls Tryz.prog 234 #[.agg (dv d),.int .i64 t,.int .i64 r,.int .i64 k] w fun e w'=>e=.returned (.int .i64 (eT d t r k))/\Below w.heap.size w w':=by
 have R:Hv (eT d t r k=if ai d t=true/\(0<=r/\r<=3)/\(0<=k/\k<d.T)/\0<=ax d t r (dC k)then t*ag d+7+r*d.T+k else -1):=Hd<|rfl
 have hT:=ak hd;have aD:=eu hd;have hp:=fT hd;have HD:=Hd hd;clear hd
 cases ht:ai d t with
 | false =>
  have z:=Hd ht;clear ht;go_enter Tryz.func234,Tryz.ntmps234;go_wp2_with fail;refine(uh d t _ z.1 aj).mono ?_;rintro e w2 ⟨rfl,j⟩;have Y:=Hd (aA (aB (Below.refl _ _) _) j);clear j;go_wp2;go_ret
  exact⟨aQ (by rw[R.1,if_neg (by rw[z.1];simp)]),Y.1⟩
 | true =>
  obtain⟨_,J,ay⟩:=aP.1 ht;have z:=Hd ht;have Q:dC k=1+k%2:=rfl;have aI:1<=dC k/\dC k<=2:=by rw[Q];omega
  have HL:=Hd Q.symm;clear ht Q;have aE:decide (k<0)=false:=by simp;omega
  have ap:decide (k≥d.T)=false:=by simp;omega
  go_enter Tryz.func234,Tryz.ntmps234;go_wp2_with fail;refine(iG d t _ z.1).mono ?_;rintro e w2 ⟨rfl,j⟩;have ar:=mQ d t;generalize ah d t=K at *;have aJ:decide (K<0)=false:=by simp;omega
  have Y:=Hd j;have Z:=j.size;simp only[World.size_alloc]at Z;obtain⟨hcc,G⟩:=az j;clear j;go_wp2_with fail;rw[HL.1];generalize I:dC k=L at *;generalize hP:ax d t r L=P at *;have HP:=Hd hP;have HC:Hv (∀w,Calls Tryz.prog 230 #[.agg (dv d),.int .i64 t,.int .i64 r,.int .i64 L] w fun e w'=>e=.returned (.int .i64 P)/\Below w.heap.size w w'):=Hd<|fun w=>by have:=jC d t r L w z.1 u q (by omega) (by omega);rwa[hP]at this
  clear hP I;refine(HC.1 _).mono ?_;rintro e H ⟨rfl,b3⟩;have B3:=Hd (aA Y.1 b3);have aF:=b3.size;clear b3 hcc G;obtain⟨hcc,G⟩:=az B3.1;by_cases V:P<0
  ·have W:decide (P<0)=true:=by simpa using V
   go_wp2;go_ret;exact⟨aQ (by rw[R.1,if_neg];rintro⟨_,_,_,h⟩;omega),aA (aB (Below.refl _ _) _) B3.1⟩
  have W:decide (P<0)=false:=by simp;omega
  go_wp2_with fail;have av:w.heap.size<H.heap.size:=by omega
  have B:=dB H;have ao:=au H;refine wpB H ?_
  repeat(go_big_quiet_step ((go_at_call 68;with_reducible exact aV (fe d _ (by omega) (by omega)))))
  refine wpQuiet_nil ?_;rintro _ ⟨⟨w4,hD⟩,rfl⟩;clear B ao;have hM:=iB J (show t<=35 by omega) (show 0<=ag d by omega) hp.2;have al:=iB u q (show 0<=d.T by omega) (show d.T<=4 by omega);have D:=Hd (And.intro (IntWalk.i64_in (t*ag d) (by omega)) (And.intro (IntWalk.i64_in (t*ag d+7) (by omega)) (And.intro (IntWalk.i64_in (r*d.T) (by omega)) (And.intro (IntWalk.i64_in (t*ag d+7+r*d.T) (by omega)) (IntWalk.i64_in (t*ag d+7+r*d.T+k) (by omega))))));have g:=Hd (And.intro (IntWalk.wrap64_in (t*ag d) (by omega)) (And.intro (IntWalk.wrap64_in (t*ag d+7) (by omega)) (And.intro (IntWalk.wrap64_in (r*d.T) (by omega)) (And.intro (IntWalk.wrap64_in (t*ag d+7+r*d.T) (by omega)) (IntWalk.wrap64_in (t*ag d+7+r*d.T+k) (by omega))))));clear hM al;go_wp2;go_ret;exact⟨aQ (by rw[R.1,if_pos ⟨z.1,⟨u,q⟩,⟨ad,U⟩,by omega⟩];first|rfl|(rw[D.1.1,D.1.2.1,D.1.2.2.1,D.1.2.2.2.1,D.1.2.2.2.2])|(rw[g.1.1,g.1.2.1,g.1.2.2.1,g.1.2.2.2.1,g.1.2.2.2.2])),aA (aA (aB (Below.refl _ _) _) B3.1) hD⟩
theorem yG(d:Dev)(n:Int)(w:World)(hn:gp d n=true)(Q:7<=n%ag d) :
  Calls Tryz.prog 229 #[.agg (dv d),.int .i64 n] w fun e w'=>e=.returned (.tuple #[.int .i64 ((n%ag d-7)/d.T),.int .i64 ((n%ag d-7)%d.T)])/\Below w.heap.size w w':=by
 obtain⟨hd,z,n1,B,hq1,G,D⟩:=kT hn;have J:=ak hd;have hp:=fT hd;have q:¬ag d=0:=by omega
 have e1:n.tmod (ag d)=n%ag d:=Int.tmod_eq_emod_of_nonneg z;clear hn hd;go_enter Tryz.func229,Tryz.ntmps229;go_wp2_with fail;refine(fe d _ (by omega) (by omega)).mono ?_;rintro e K ⟨rfl,g⟩;have j:=g.size;simp only[World.size_alloc]at j;obtain⟨hcc,I⟩:=az g;have H:=Hd (aA (aB (Below.refl _ _) _) g);clear g;generalize hk:n%ag d=k at *;have u:=Hd hk;clear hk;go_wp2_with fail;clear q e1;have q:¬d.T=0:=by omega
 have e1:(k-7).tmod d.T=(k-7)%d.T:=Int.tmod_eq_emod_of_nonneg (by omega);have e2:IntKind.i64.wrap ((k-7).tdiv d.T)=(k-7)/d.T:=IntWalk.i64_quo _ _ ⟨by omega,by omega,by omega⟩
 go_quiet (fail)
 go_wp2
 go_ret2
 exact⟨by rw[u.1];rfl,ae H.1 _⟩
theorem OY(d:Dev):0<=xB d/\xB d<=828:=by
 unfold xB
 split
 ·rename_i h;have:=jg h;omega
 omega
theorem xR{d:Dev}{n:Int}:gp d n=true↔0<=n/\n<xB d:=by
 unfold gp xB;simp only[Bool.and_eq_true,decide_eq_true_eq]
 split
 ·rename_i h;simp[h]
 rename_i h;simp[h] <;> omega
theorem jw(d:Dev)(n:Int)(w:World) :
  Calls Tryz.prog 207 #[.agg (dv d),.int .i64 n] w fun e w'=>e=.returned (.bool (ed d n))/\Below w.heap.size w w':=by
 have aF:=OY d;by_cases h0:n<0
 ·have z:Hv (ed d n=false):=Hd<|by
   show _=false;unfold ed
   cases h:gp d n with
   | false=>rfl
   | true=>have:=xR.1 h;omega
  have af:decide (n<0)=true:=by simpa using h0
  go_enter Tryz.func207,Tryz.ntmps207;go_wp2;go_ret;exact⟨fH z.1.symm,aB (Below.refl _ _) _⟩
 have af:decide (n<0)=false:=by simp;omega
 by_cases h1:n<xB d
 ·have j:gp d n=true:=xR.2 ⟨by omega,h1⟩;have V:decide (n≥xB d)=false:=by simp;omega
  have z:Hv (ed d n=wL d (n/ag d) (n%ag d)):=Hd<|by show _=_;unfold ed;rw[j];rfl
  have HN:=Hd j;obtain⟨hd,n0,n1,ay,hq1,aO,Z⟩:=kT j;have hT:=ak hd;have hp:=fT hd;have aM:=eu hd;have H:=Hd (ky j);have e0:¬ag d=0:=by omega
  have e1:n.tmod (ag d)=n%ag d:=Int.tmod_eq_emod_of_nonneg n0;have e2:IntKind.i64.wrap (n.tdiv (ag d))=n/ag d:=IntWalk.i64_quo _ _ ⟨n0,by omega,by omega⟩;clear j hd;go_enter Tryz.func207,Tryz.ntmps207;go_wp2_with fail;refine(nS d _).mono ?_;rintro e w1 ⟨rfl,B⟩;have B1:=Hd B;have ad:=B.size;simp only[World.size_alloc]at ad;obtain⟨hcc,g⟩:=az B;clear B;go_wp2_with fail;refine(fe d _ (by omega) (by omega)).mono ?_;rintro e w2 ⟨rfl,b2⟩;have B2:=Hd (aA B1.1 b2);have av:=b2.size;clear b2 hcc g;obtain⟨hcc,g⟩:=az B2.1;go_wp2_with fail;refine(fe d _ (by omega) (by omega)).mono ?_;rintro e w3 ⟨rfl,b3⟩;have R:=Hd (aA B2.1 b3);have aC:=b3.size;clear b3 hcc g;obtain⟨hcc,g⟩:=az R.1;have D:=Hd (fun(h7:7<=n%ag d) (w:World)=>yG d n w HN.1 h7);generalize hk:n%ag d=k at *;generalize hq:n/ag d=q at *;have hK:wL d q k=if k<5 then decide (k<jK (ah d q))else if k<7 then decide (k-5<eU (ah d q))else decide (0<=ax d q ((k-7)/d.T) (dC ((k-7)%d.T))):=rfl
  have W:=Hd hK;have aE:=uN d q;have aH:=iP d q;have I:=Hd (fun w=>iG d q w H.1);generalize ah d q=K at *;clear hK hk hq;have h3:k<5∨(¬k<5/\k<7)∨(¬k<5/\¬k<7):=by omega
  rcases h3 with h|⟨h,h'⟩|⟨h,h'⟩
  ·go_wp2_with fail;refine(I.1 _).mono ?_;rintro e w4 ⟨rfl,u⟩;have G:=Hd (aA R.1 u);clear u hcc g;generalize J:jK K=Q at *;have Y:=Hd J;clear J
   go_wp2_with (go_at_call 255;refine(si _ _).mono ?_;rw[Y.1];rintro e w' ⟨rfl,rfl⟩)
   go_ret;exact⟨fH (by rw[z.1,W.1,if_pos (by omega)]),aA (aB (Below.refl _ _) _) G.1⟩
  ·go_wp2_with fail;refine(I.1 _).mono ?_;rintro e w4 ⟨rfl,u⟩;have G:=Hd (aA R.1 u);clear u hcc g;generalize J:eU K=Q at *;have Y:=Hd J;clear J
   go_wp2_with (go_at_call 233;refine(lh _ _).mono ?_;rw[Y.1];rintro e w' ⟨rfl,rfl⟩)
   go_ret;exact⟨fH (by rw[z.1,W.1,if_neg (by omega),if_pos (by omega)]),aA (aB (Below.refl _ _) _) G.1⟩
  have aR:=Int.ediv_nonneg (show 0<=k-7 by omega) (show 0<=d.T by omega);have aD:=Int.emod_nonneg (k-7) (show d.T≠0 by omega);have aT:=Int.emod_lt_of_pos (k-7) (show 0<d.T by omega)
  have aG:(k-7)/d.T<=3:=by
   have:(k-7)/d.T<4:=Int.ediv_lt_of_lt_mul (by omega) (by unfold ag at Z;omega);omega
  go_wp2_with fail;refine(D.1 (by omega) _).mono ?_;rintro e w4 ⟨rfl,u⟩;have G:=Hd (aA R.1 u);have aw:=u.size;clear u hcc g;obtain⟨hcc,g⟩:=az G.1;generalize (k-7)/d.T=r at *;generalize (k-7)%d.T=m at *;have hL:dC m=1+m%2:=rfl;have aP:1<=dC m/\dC m<=2:=by rw[hL];omega
  have HL:=Hd hL.symm;clear hL;go_wp2_with fail;rw[HL.1];generalize U:dC m=L at *;generalize hP:ax d q r L=P at *;have HC:Hv (∀w,Calls Tryz.prog 230 #[.agg (dv d),.int .i64 q,.int .i64 r,.int .i64 L] w fun e w'=>e=.returned (.int .i64 P)/\Below w.heap.size w w'):=Hd<|fun w=>by have:=jC d q r L w H.1 (by omega) (by omega) (by omega) (by omega);rwa[hP]at this
  clear hP U;refine(HC.1 _).mono ?_;rintro e w5 ⟨rfl,b5⟩;have B5:=Hd (aA G.1 b5);clear b5 hcc g;go_wp2;go_ret;exact⟨fH (by rw[z.1,W.1,if_neg (by omega),if_neg (by omega)]),aA (aB (Below.refl _ _) _) B5.1⟩
 have z:Hv (ed d n=false):=Hd<|by
  show _=false;unfold ed
  cases h:gp d n with
  | false=>rfl
  | true=>have:=xR.1 h;omega
 have V:decide (n≥xB d)=true:=by simp;omega
 go_enter Tryz.func207,Tryz.ntmps207;go_wp2_with fail;refine(nS d _).mono ?_;rintro e w1 ⟨rfl,B⟩;have B1:=Hd (aA (aB (Below.refl _ _) _) B);clear B;go_wp2;go_ret;exact⟨fH z.1.symm,B1.1⟩
theorem vR{d:Dev}{t pin r k:Int}{s:Nat}(h:∀s,nI d pin r k s=false):iy d t pin r k s=[]:=by
 unfold iy;rw[List.flatMap_eq_nil_iff];intro j _;unfold nJ;rw[h];rfl
theorem pV{d:Dev}{t pin r k s:Int}(h:nI d pin r k s=true):nJ d t pin r k s=nV (jv d t r k s):=by unfold nJ;rw[if_pos h]
theorem qH{d:Dev}{t pin r k s:Int}(h:nI d pin r k s=false):nJ d t pin r k s=[]:=by unfold nJ;rw[h];rfl
theorem JC{d:Dev}{pin:Int}(g:7<=pin)(r k s:Int):nI d pin r k s=(decide (r≠((pin-7)/d.T+2)%4) && ((decide (k=(pin-7)%d.T) || decide (k=((pin-7)%d.T+1)%d.T)) && decide (s=dC k))):=by unfold nI ym;rw[if_pos g]
theorem KZ{d:Dev}{pin:Int}(g:pin<7)(r k s:Int):nI d pin r k s=!(decide (d.T>1) && decide ((k+pin)%2=1)):=by unfold nI xM;rw[if_neg (by omega)]
theorem ED(d:Dev)(n:Int)(w:World)(B:ed d n=true)(h5:n%ag d<5) :
  Calls Tryz.prog 146 #[.agg (dv d),.int .i64 n] w fun e w'=>∃A m c,e=.returned (.slice A m c)/\Own w.heap.size w' A m c (nX d n)/\Below w.heap.size w w':=by
 have aR:=Hd (aB (Below.refl w.heap.size w) (.cells (dv d) 36));have Q:gp d n=true:=by unfold ed at B;rw[Bool.and_eq_true]at B;exact B.1
 have aF:=Hd (ky Q);obtain⟨hd,n0,n1,a9,hq1,bz,bn⟩:=kT Q;have hT:=ak hd;have hp:=fT hd;have bu:=eu hd;have HD:=Hd hd;have U:=Hd (fun l hp hs=>yD (l:=l) B (by omega) hp hs);have W:Hv (∀w,Calls Tryz.prog 207 #[.agg (dv d),.int .i64 n] w fun e w'=>e=.returned (.bool true)/\Below w.heap.size w w'):=Hd<|fun w=>by have h:=jw d n w;rwa[B]at h
 have e0:¬ag d=0:=by omega
 have e1:n.tmod (ag d)=n%ag d:=Int.tmod_eq_emod_of_nonneg n0;have e2:IntKind.i64.wrap (n.tdiv (ag d))=n/ag d:=IntWalk.i64_quo _ _ ⟨n0,by omega,by omega⟩;have R:=Hd (fun r k s=>KZ (d:=d) (pin:=n%ag d) (by omega) r k s);clear B Q hd;go_enter Tryz.func146,Tryz.ntmps146;go_wp2_with fail;refine(W.1 _).mono ?_;rintro e w1 ⟨rfl,b1⟩;have N1:=Hd ((Own.newAt (w:=(w.alloc (.cells (dv d) 36))) (base:=(w.alloc (.cells (dv d) 36)).heap.size) (g:=w.heap.size+1) (by simp) (by simp)).below b1);have aj:=Hd (aA (aB (Below.refl _ _) _) b1:Below (w.alloc (.cells (dv d) 36)).heap.size (w.alloc (.cells (dv d) 36)) w1);have D:=b1.size;simp only[World.size_alloc]at D;clear b1;obtain⟨hcc,j⟩:=az aj.1;go_wp2_with fail;refine(fe d _ (by omega) (by omega)).mono ?_;rintro e w2 ⟨rfl,b2⟩;have G:=Hd (aA aj.1 b2);have N2:=Hd (N1.1.below b2);have aH:=b2.size;clear b2 hcc j;obtain⟨hcc,j⟩:=az G.1;go_wp2_with fail;refine(fe d _ (by omega) (by omega)).mono ?_;rintro e w3 ⟨rfl,b3⟩;have ad:=Hd (aA G.1 b3);have N3:=Hd (N2.1.below b3);have bD:=b3.size;clear b3 hcc j;obtain⟨hcc,j⟩:=az ad.1;generalize n%ag d=pin at *;generalize n/ag d=t at *;clear W;have bd:decide (pin≥7)=false:=by simp;omega
 have aY:decide (pin<7)=true:=by simp;omega
 have bh:(pin==5)=false:=by simp;omega
 have a6:(pin==6)=false:=by simp;omega
 have NS:=N3;have ay:=ad;clear hcc j;go_wp2
 go_loopw[5,10] (fun v i wr=>∃(r:Nat) (A:Oh) (m c:Nat),r<=4/\i=.int .i64 r/\v=.slice A m c/\m<=2+8*r/\Own (w.alloc (.cells (dv d) 36)).heap.size wr A m c (iO d t pin r)/\Below (w.alloc (.cells (dv d) 36)).heap.size (w.alloc (.cells (dv d) 36)) wr) (fun _ i _=>4-(intOf i).toNat)
 ·exact⟨0,_,_,_,by omega,rfl,rfl,by omega,by simpa [iO]using NS.1,ay.1⟩
 obtain⟨r,A,m,c,hr,rfl,rfl,hn,ho,hb⟩:=hrel;obtain⟨H,J⟩:=hd2 ho hb;have hs:=hb.size;simp only[World.size_alloc]at hs;obtain⟨hcc,j⟩:=az hb;clear ho hb;by_cases bp:r<4
 ·have aG:decide ((r:Int)<4)=true:=by simp;omega
  have aS:=Hd (pO d t pin r);clear hcc j;go_wp2
  go_loopw[5,11] (fun v i wr=>∃(k:Nat) (A:Oh) (m c:Nat),(k:Int)<=d.T/\i=.int .i64 k/\v=.slice A m c/\m<=2+8*r+2*k/\Own (w.alloc (.cells (dv d) 36)).heap.size wr A m c (iO d t pin r++jI d t pin (r:Int) k)/\Below (w.alloc (.cells (dv d) 36)).heap.size (w.alloc (.cells (dv d) 36)) wr) (fun _ i _=>d.T.toNat-(intOf i).toNat)
  ·exact⟨0,A,m,c,by omega,rfl,rfl,by omega,by simpa [jI]using H.1,J.1⟩
  obtain⟨k,A,m,c,hk,rfl,rfl,hn,ho,hb⟩:=hrel;obtain⟨H,J⟩:=hd2 ho hb;have hs:=hb.size;simp only[World.size_alloc]at hs;obtain⟨hcc,j⟩:=az hb;have V:=Hd (pM d t pin (r:Int) k);clear ho hb;by_cases aw:(k:Int)<d.T
  ·have aE:decide ((k:Int)<d.T)=true:=by simpa using aw
   have hL:dC (k:Int)=1+(k:Int)%2:=rfl;have bA:1<=dC (k:Int)/\dC (k:Int)<=2:=by rw[hL];omega
   have HL:=Hd hL.symm;have af:=fun s=>Hd (pK d t pin (r:Int) (k:Int) s);clear hL;have q:=R.1 (r:Int) (k:Int);have q:=Hd q;have a7:0<=((k:Int)+pin)%2/\((k:Int)+pin)%2<=1:=by omega
   have e1:((k:Int)+pin).tmod 2=((k:Int)+pin)%2:=Int.tmod_eq_emod_of_nonneg (by omega);generalize ((k:Int)+pin)%2=z at *;by_cases u:d.T>1/\z=1
   ·have Z:=Hd (vR (d:=d) (t:=t) (pin:=pin) (r:=(r:Int)) (k:=(k:Int)) (s:=(dC (k:Int)).toNat) (fun s=>by rw[q.1,decide_eq_true u.1,decide_eq_true u.2];rfl));obtain⟨D,rfl⟩:=u;have bl:decide (d.T>1)=true:=by simpa using D
    go_wp2;go_roundw
    ·exact⟨k+1,A,m,c,by omega,by go_num,rfl,by omega,by rw[V.1,Z.1,List.append_nil];exact H.1,J.1⟩
    simp[intOf];omega
   have aK:(d.T>1/\z=0)∨¬d.T>1:=by omega
   have aD:Hv (∀s,nI d pin (r:Int) (k:Int) s=true):=Hd<|by
    intro s;rw[q.1];simp;omega
   clear q
   rcases aK with⟨D,rfl⟩|D
   all_goals
    go_wp2
    go_loopw[5,12] (fun v i wr=>∃(s:Nat) (A:Oh) (m c:Nat),(s:Int)<=dC (k:Int)/\i=.int .i64 ((s:Int)+1)/\v=.slice A m c/\m<=2+8*r+2*k+s/\Own (w.alloc (.cells (dv d) 36)).heap.size wr A m c (iO d t pin r++jI d t pin (r:Int) k++iy d t pin (r:Int) (k:Int) s)/\Below (w.alloc (.cells (dv d) 36)).heap.size (w.alloc (.cells (dv d) 36)) wr) (fun _ i _=>4-(intOf i).toNat)
    ·exact⟨0,A,m,c,by omega,rfl,rfl,by omega,by simpa [iy]using H.1,J.1⟩
    obtain⟨s,A,m,c,bB,rfl,rfl,hn,ho,hb⟩:=hrel;obtain⟨H,J⟩:=hd2 ho hb;have hs:=hb.size;simp only[World.size_alloc]at hs;clear hcc j;obtain⟨hcc,j⟩:=az hb;clear ho hb;have hZ:1+(k:Int)%2=dC (k:Int):=HL.1;by_cases I:(s:Int)+1<=dC (k:Int)
    ·have a1:=I;rw[←hZ]at I;have aM:decide ((s:Int)+1<=1+(k:Int)%2)=true:=by simpa using I
     clear hZ;have al:=Hd (pV (t:=t) (aD.1 ((s:Int)+1)));generalize hP:ax d t (((r:Int)+2)%4) ((s:Int)+1)=P at *;have HP:=Hd hP;have aT:=kY (d:=d) (t:=t) (r:=((r:Int)+2)%4) (s:=(s:Int)+1) HD.1;rw[hP]at aT;clear hP;generalize hC:jv d t (r:Int) (k:Int) ((s:Int)+1)=C at *
     have HC:Hv (∀w,Calls Tryz.prog 234 #[.agg (dv d),.int .i64 P,.int .i64 (r:Int),.int .i64 (k:Int)] w fun e w'=>e=.returned (.int .i64 C)/\Below w.heap.size w w'):=Hd<|fun w=>by
      have h:=kK d P (r:Int) (k:Int) w HD.1 (by omega) (by omega) (by omega) (by omega) (by omega);rwa[show eT d P (r:Int) (k:Int)=C from by rw[←hC,jv,HP.1]]at h
     have aJ:Hv (∀w,Calls Tryz.prog 230 #[.agg (dv d),.int .i64 t,.int .i64 (((r:Int)+2)%4),.int .i64 ((s:Int)+1)] w fun e w'=>e=.returned (.int .i64 P)/\Below w.heap.size w w'):=Hd<|fun w=>by
      have h:=jC d t (((r:Int)+2)%4) ((s:Int)+1) w aF.1 (by omega) (by omega) (by omega) (by omega);rwa[HP.1]at h
     have bg:=Hd hC;clear hC;have e3:((r:Int)+2).tmod 4=((r:Int)+2)%4:=Int.tmod_eq_emod_of_nonneg (by omega);have e4:IntKind.i64.wrap ((r:Int)+2)=(r:Int)+2:=IntWalk.i64_in _ (by omega);have bs:w.heap.size<wr.heap.size:=by omega
     go_wp2_with fail;have Y:=dB wr;have aC:=au wr;refine wpB wr ?_
     repeat(go_big_quiet_step ((first
      | (go_at_call 230;with_reducible exact aV (aJ.1 _))
      | (go_at_call 234;with_reducible exact aV (HC.1 _)))))
     refine wpQuiet_nil ?_;rintro _ ⟨⟨w2,hD⟩,rfl⟩;clear Y aC hcc j e3 e4;have G:=Hd (aA J.1 hD);have ah:=Hd (H.1.below hD);have aH:=hD.size;clear hD;by_cases bw:C≥0
     ·have K:=Hd (kw (x:=C) (by omega))
      go_wp2_with (at_builtin;refine fP rfl _ _ rfl (w.alloc (.cells (dv d) 36)).heap.size A m c _ C rfl ah.1 rfl (by omega) (by simp;omega) G.1 ?_;rintro g4 c4 w4 o4 b4 - -)
      go_roundw
      ·exact⟨s+1,_,m+1,c4,by omega,by go_num,rfl,by omega,by rw[(af s).1,al.1,K.1,←List.append_assoc];exact o4,b4⟩
      simp[intOf];omega
     have K:=Hd (mO (x:=C) (by omega));go_wp2;go_roundw
     ·exact⟨s+1,A,m,c,by omega,by go_num,rfl,by omega,by rw[(af s).1,al.1,K.1,List.append_nil];exact ah.1,G.1⟩
     simp[intOf];omega
    have ae:(dC (k:Int)).toNat=s:=by omega
    have aO:=Hd ae;rw[←hZ]at I;have aM:decide ((s:Int)+1<=1+(k:Int)%2)=false:=by simp;omega
    clear ae hZ;go_wp2;go_roundw
    ·exact⟨k+1,A,m,c,by omega,by go_num,rfl,by omega,by rw[V.1,aO.1,←List.append_assoc];exact H.1,J.1⟩
    simp[intOf];omega
  have am:d.T=(k:Int):=by omega
  have aU:=Hd am;have aE:decide ((k:Int)<d.T)=false:=by simp;omega
  clear am;go_wp2;go_roundw
  ·exact⟨r+1,A,m,c,by omega,by go_num,rfl,by omega,by rw[aS.1,show d.T.toNat=k by have:=aU.1;omega];exact H.1,J.1⟩
  simp[intOf];omega
 have ai:r=4:=by omega
 have aN:=Hd ai;have aG:decide ((r:Int)<4)=false:=by simp;omega
 have a5:=Hd H.1.len;clear ai hcc j;go_wp2_with fail;refine(qG A m c _ _ H.1.ints (by omega)).mono ?_;rintro e w9 ⟨A9,c9,rfl,⟨ys,oy,py,sy⟩,b9⟩;have HY:=Hd oy;have aQ:=Hd (aA aR.1 (aA J.1 b9));have HE:=Hd (U.1 ys (by rw[aN.1]at py;unfold jV;rw[if_neg (by omega),List.nil_append];exact py) sy);clear oy py sy b9;go_wp2;go_ret;exact⟨A9,m,c9,rfl,by rw[←HE.1];exact HY.1.more (by omega),aQ.1⟩
theorem BI(d:Dev)(n:Int)(w:World)(aE:ed d n=true)(h7:7<=n%ag d) :
  Calls Tryz.prog 146 #[.agg (dv d),.int .i64 n] w fun e w'=>∃A m c,e=.returned (.slice A m c)/\Own w.heap.size w' A m c (nX d n)/\Below w.heap.size w w':=by
 have bo:=Hd (aB (Below.refl w.heap.size w) (.cells (dv d) 36));have aP:gp d n=true:=by unfold ed at aE;rw[Bool.and_eq_true]at aE;exact aE.1
 have ap:=Hd (ky aP);obtain⟨hd,n0,n1,cc,hq1,ct,bK⟩:=kT aP;have hT:=ak hd;have hp:=fT hd;have co:=eu hd;have HD:=Hd hd;have aL:=Hd (fun l hp hs=>yD (l:=l) aE (by omega) hp hs);have bh:Hv (∀w,Calls Tryz.prog 207 #[.agg (dv d),.int .i64 n] w fun e w'=>e=.returned (.bool true)/\Below w.heap.size w w'):=Hd<|fun w=>by have h:=jw d n w;rwa[aE]at h
 have e0:¬ag d=0:=by omega
 have e1:n.tmod (ag d)=n%ag d:=Int.tmod_eq_emod_of_nonneg n0;have e2:IntKind.i64.wrap (n.tdiv (ag d))=n/ag d:=IntWalk.i64_quo _ _ ⟨n0,by omega,by omega⟩;have aJ:=Hd (fun r k s=>JC (d:=d) (pin:=n%ag d) h7 r k s);have bP:=Hd (fun w=>yG d n w aP h7);clear aE aP hd;go_enter Tryz.func146,Tryz.ntmps146;go_wp2_with fail;refine(bh.1 _).mono ?_;rintro e w1 ⟨rfl,b1⟩;have N1:=Hd ((Own.newAt (w:=(w.alloc (.cells (dv d) 36))) (base:=(w.alloc (.cells (dv d) 36)).heap.size) (g:=w.heap.size+1) (by simp) (by simp)).below b1);have bp:=Hd (aA (aB (Below.refl _ _) _) b1:Below (w.alloc (.cells (dv d) 36)).heap.size (w.alloc (.cells (dv d) 36)) w1);have bS:=b1.size;simp only[World.size_alloc]at bS;clear b1;obtain⟨hcc,q⟩:=az bp.1;go_wp2_with fail;refine(fe d _ (by omega) (by omega)).mono ?_;rintro e w2 ⟨rfl,b2⟩;have R:=Hd (aA bp.1 b2);have N2:=Hd (N1.1.below b2);have aQ:=b2.size;clear b2 hcc q;obtain⟨hcc,q⟩:=az R.1;go_wp2_with fail;refine(fe d _ (by omega) (by omega)).mono ?_;rintro e w3 ⟨rfl,b3⟩;have bj:=Hd (aA R.1 b3);have N3:=Hd (N2.1.below b3);have cy:=b3.size;clear b3 hcc q;obtain⟨hcc,q⟩:=az bj.1;generalize n%ag d=pin at *;generalize n/ag d=t at *;clear bh;have bm:7<=pin:=h7;have cf:decide (pin≥7)=true:=by simp;omega
 have ck:(pin==5)=false:=by simp;omega
 have bZ:(pin==6)=false:=by simp;omega
 have cw:=Int.ediv_nonneg (show 0<=pin-7 by omega) (show 0<=d.T by omega);have ch:=Int.emod_nonneg (pin-7) (show d.T≠0 by omega);have cA:=Int.emod_lt_of_pos (pin-7) (show 0<d.T by omega)
 have cn:(pin-7)/d.T<=3:=by
  have:(pin-7)/d.T<4:=Int.ediv_lt_of_lt_mul (by omega) (by unfold ag at bK;omega);omega
 go_wp2_with fail;refine(bP.1 _).mono ?_;rintro e w4 ⟨rfl,b4⟩;have br:=Hd (aA bj.1 b4);have N4:=Hd (N3.1.below b4);have cp:=b4.size;clear b4 hcc q e0 e1 e2;obtain⟨hcc,q⟩:=az br.1;generalize (pin-7)/d.T=a3 at *;generalize (pin-7)%d.T=j at *;have e0:¬d.T=0:=by omega
 have e6:(j+1).tmod d.T=(j+1)%d.T:=Int.tmod_eq_emod_of_nonneg (by omega);have cd:=Int.emod_nonneg (a3+2) (show(4:Int)≠0 by omega);generalize ho:(a3+2)%4=o at *;have cv:=Hd ho;have e7:(a3+2).tmod 4=o:=by rw[Int.tmod_eq_emod_of_nonneg (by omega),ho]
 clear ho;generalize (j+1)%d.T=J at *;go_wp2_with fail;refine(yF d t 0 _ ap.1 (by omega) (by omega)).mono ?_;rintro e w5 ⟨rfl,b5⟩;have bn:=Hd (aA br.1 b5);have N5:=Hd (N4.1.below b5);have cx:=b5.size;clear b5 hcc q;obtain⟨hcc,q⟩:=az bn.1;have aR:Hv (jH d t=if eU (ah d t)>1 then[fB d t 0,fB d t 1]else[fB d t 0]):=Hd<|rfl
 generalize fB d t 0=X0 at *
 go_wp2_with (at_builtin;refine fP rfl _ _ rfl (w.alloc (.cells (dv d) 36)).heap.size _ 0 0 [] X0 rfl N5.1 rfl (by omega) (by simp;omega) bn.1 ?_;rintro g6 c6 w6 o6 b6 - -;rw[List.nil_append]at o6;have bQ:=Hd b6;have N6:=Hd o6;have bM:=b6.size;(try simp only[World.size_alloc]at bM);clear hcc q;obtain⟨hcc,q⟩:=az b6;clear o6 b6)
 refine(iG d t _ ap.1).mono ?_;rintro e w7 ⟨rfl,b7⟩;have a2:=Hd (aA bQ.1 b7);have N7:=Hd (N6.1.below b7);have cj:=b7.size;clear b7 hcc q;obtain⟨hcc,q⟩:=az a2.1;have bN:=iP d t;generalize ah d t=K at *;have HC:Hv (∀w,Calls Tryz.prog 233 #[.int .i64 K] w fun e w'=>e=.returned (.int .i64 (eU K))/\w=w'):=Hd<|fun w=>lh K w
 generalize eU K=Q at *
 rcases bN with rfl|rfl
 focus
  have aH:Hv (jH d t=[X0]):=Hd<|by show _=_;rw[aR.1];rfl
  clear aR
  go_wp2_with (go_at_call 233;refine(HC.1 _).mono ?_;rintro e w' ⟨rfl,rfl⟩)
  have NS:Hv (Own (w.alloc (.cells (dv d) 36)).heap.size w7 (some ⟨g6,0,none⟩) 1 c6 (jH d t)):=Hd<|by show Own _ _ _ _ _ _;rw[aH.1];exact N7.1
  have aX:=a2;clear hcc q
 rotate_left
 focus
  have aH:Hv (jH d t=[X0,fB d t 1]):=Hd<|by show _=_;rw[aR.1];rfl
  clear aR
  go_wp2_with (go_at_call 233;refine(HC.1 _).mono ?_;rintro e w' ⟨rfl,rfl⟩)
  refine(yF d t 1 _ ap.1 (by omega) (by omega)).mono ?_;rintro e w8 ⟨rfl,b8⟩;have bG:=Hd (aA a2.1 b8);have N8:=Hd (N7.1.below b8);have cr:=b8.size;clear b8 hcc q;generalize fB d t 1=X1 at *
  go_wp2_with (at_builtin;refine fP rfl _ _ rfl (w.alloc (.cells (dv d) 36)).heap.size _ 1 c6 [X0] X1 rfl N8.1 rfl (by omega) (by simp;omega) bG.1 ?_;rintro g9 c9 w9 o9 b9 - -;have aX:=Hd b9;have N9:=Hd o9;clear o9 b9)
  have NS:Hv (Own (w.alloc (.cells (dv d) 36)).heap.size w9 (some ⟨g9,0,none⟩) 2 c9 (jH d t)):=Hd<|by show Own _ _ _ _ _ _;rw[aH.1];exact N9.1
 all_goals
  go_loopw[5,10] (fun v i wr=>∃(r:Nat) (A:Oh) (m c:Nat),r<=4/\i=.int .i64 r/\v=.slice A m c/\m<=2+8*r/\Own (w.alloc (.cells (dv d) 36)).heap.size wr A m c (jH d t++iO d t pin r)/\Below (w.alloc (.cells (dv d) 36)).heap.size (w.alloc (.cells (dv d) 36)) wr) (fun _ i _=>4-(intOf i).toNat)
  ·exact⟨0,_,_,_,by omega,rfl,rfl,by omega,by simpa [iO]using NS.1,aX.1⟩
  obtain⟨r,A,m,c,hr,rfl,rfl,hn,ho,hb⟩:=hrel;obtain⟨D,H⟩:=hd2 ho hb;have hs:=hb.size;simp only[World.size_alloc]at hs;obtain⟨hcc,q⟩:=az hb;clear ho hb;by_cases bL:r<4
  ·have a1:decide ((r:Int)<4)=true:=by simp;omega
   have bc:=Hd (pO d t pin r);clear hcc q;go_wp2
   go_loopw[5,11] (fun v i wr=>∃(k:Nat) (A:Oh) (m c:Nat),(k:Int)<=d.T/\i=.int .i64 k/\v=.slice A m c/\m<=2+8*r+2*k/\Own (w.alloc (.cells (dv d) 36)).heap.size wr A m c (jH d t++iO d t pin r++jI d t pin (r:Int) k)/\Below (w.alloc (.cells (dv d) 36)).heap.size (w.alloc (.cells (dv d) 36)) wr) (fun _ i _=>d.T.toNat-(intOf i).toNat)
   ·exact⟨0,A,m,c,by omega,rfl,rfl,by omega,by simpa [jI]using D.1,H.1⟩
   obtain⟨k,A,m,c,hk,rfl,rfl,hn,ho,hb⟩:=hrel;obtain⟨D,H⟩:=hd2 ho hb;have hs:=hb.size;simp only[World.size_alloc]at hs;obtain⟨hcc,q⟩:=az hb;have ae:=Hd (pM d t pin (r:Int) k);clear ho hb;by_cases aU:(k:Int)<d.T
   ·have a0:decide ((k:Int)<d.T)=true:=by simpa using aU
    have hL:dC (k:Int)=1+(k:Int)%2:=rfl;have bR:1<=dC (k:Int)/\dC (k:Int)<=2:=by rw[hL];omega
    have HL:=Hd hL.symm;have U:=fun s=>Hd (pK d t pin (r:Int) (k:Int) s);clear hL;have G:=aJ.1 (r:Int) (k:Int);have G:=Hd G;by_cases Z:(r:Int)=o∨(¬(k:Int)=j/\¬(k:Int)=J)
    ·have am:=Hd (vR (d:=d) (t:=t) (pin:=pin) (r:=(r:Int)) (k:=(k:Int)) (s:=(dC (k:Int)).toNat) (fun s=>by rw[G.1];simp;omega));have al:(r:Int)=o∨(¬(r:Int)=o/\¬(k:Int)=j/\¬(k:Int)=J):=by omega
     clear Z
     rcases al with h|⟨h1,h2,h3⟩
     ·have q1:((r:Int)==o)=true:=by simpa using h
      clear h;go_wp2;go_roundw
      ·exact⟨k+1,A,m,c,by omega,by go_num,rfl,by omega,by rw[ae.1,am.1,List.append_nil];exact D.1,H.1⟩
      simp[intOf];omega
     have q1:((r:Int)==o)=false:=by simpa using h1
     have q2:((k:Int)==j)=false:=by simpa using h2
     have aM:((k:Int) != j)=true:=by simpa using h2
     have q3:((k:Int)==J)=false:=by simpa using h3
     have a7:((k:Int) != J)=true:=by simpa using h3
     clear h1 h2 h3;go_wp2;go_roundw
     ·exact⟨k+1,A,m,c,by omega,by go_num,rfl,by omega,by rw[ae.1,am.1,List.append_nil];exact D.1,H.1⟩
     simp[intOf];omega
    have al:(¬(r:Int)=o/\(k:Int)=j)∨(¬(r:Int)=o/\¬(k:Int)=j/\(k:Int)=J):=by omega
    have aj:Hv (∀s,nI d pin (r:Int) (k:Int) s=decide (s=dC (k:Int))):=Hd<|by
     intro s;rw[G.1,decide_eq_true (show(r:Int)≠o by omega)]
     rcases al with h|h
     ·rw[decide_eq_true h.2];simp
     rw[decide_eq_true h.2.2];simp
    clear G Z
    rcases al with⟨h1,h2⟩|⟨h1,h2,h3⟩
    focus
     have q1:((r:Int)==o)=false:=by simpa using h1
     have q2:((k:Int)==j)=true:=by simpa using h2
     have aM:((k:Int) != j)=false:=by simpa using h2
     clear h1 h2
    rotate_left
    focus
     have q1:((r:Int)==o)=false:=by simpa using h1
     have q2:((k:Int)==j)=false:=by simpa using h2
     have aM:((k:Int) != j)=true:=by simpa using h2
     have q3:((k:Int)==J)=true:=by simpa using h3
     have a7:((k:Int) != J)=false:=by simpa using h3
     clear h1 h2 h3
    all_goals
     go_wp2
     go_loopw[5,12] (fun v i wr=>∃(s:Nat) (A:Oh) (m c:Nat),(s:Int)<=dC (k:Int)/\i=.int .i64 ((s:Int)+1)/\v=.slice A m c/\m<=2+8*r+2*k+s/\Own (w.alloc (.cells (dv d) 36)).heap.size wr A m c (jH d t++iO d t pin r++jI d t pin (r:Int) k++iy d t pin (r:Int) (k:Int) s)/\Below (w.alloc (.cells (dv d) 36)).heap.size (w.alloc (.cells (dv d) 36)) wr) (fun _ i _=>4-(intOf i).toNat)
     ·exact⟨0,A,m,c,by omega,rfl,rfl,by omega,by simpa [iy]using D.1,H.1⟩
     obtain⟨s,A,m,c,bd,rfl,rfl,hn,ho,hb⟩:=hrel;obtain⟨D,H⟩:=hd2 ho hb;have hs:=hb.size;simp only[World.size_alloc]at hs;clear hcc q;obtain⟨hcc,q⟩:=az hb;clear ho hb;have hZ:1+(k:Int)%2=dC (k:Int):=HL.1;by_cases z:(s:Int)+1<=dC (k:Int)
     ·have aI:=z;rw[←hZ]at z;have aw:decide ((s:Int)+1<=1+(k:Int)%2)=true:=by simpa using z
      clear hZ;have u:(s:Int)+1<1+(k:Int)%2∨¬(s:Int)+1<1+(k:Int)%2:=by omega
      rcases u with u|u
      ·have Y:decide ((s:Int)+1<1+(k:Int)%2)=true:=by simpa using u
       have B:=Hd (qH (t:=t) ((aj.1 ((s:Int)+1)).trans (decide_eq_false (by have:=HL.1;omega))));clear hcc q;go_wp2;go_roundw
       ·exact⟨s+1,A,m,c,by omega,by go_num,rfl,by omega,by rw[(U s).1,B.1,List.append_nil];exact D.1,H.1⟩
       simp[intOf];omega
      have Y:decide ((s:Int)+1<1+(k:Int)%2)=false:=by simp;omega
      have B:=Hd (pV (t:=t) ((aj.1 ((s:Int)+1)).trans (decide_eq_true (by have:=HL.1;omega))));generalize hP:ax d t (((r:Int)+2)%4) ((s:Int)+1)=P at *;have HP:=Hd hP;have aC:=kY (d:=d) (t:=t) (r:=((r:Int)+2)%4) (s:=(s:Int)+1) HD.1;rw[hP]at aC;clear hP;generalize hC:jv d t (r:Int) (k:Int) ((s:Int)+1)=C at *
      have HC:Hv (∀w,Calls Tryz.prog 234 #[.agg (dv d),.int .i64 P,.int .i64 (r:Int),.int .i64 (k:Int)] w fun e w'=>e=.returned (.int .i64 C)/\Below w.heap.size w w'):=Hd<|fun w=>by
       have h:=kK d P (r:Int) (k:Int) w HD.1 (by omega) (by omega) (by omega) (by omega) (by omega);rwa[show eT d P (r:Int) (k:Int)=C from by rw[←hC,jv,HP.1]]at h
      have ar:Hv (∀w,Calls Tryz.prog 230 #[.agg (dv d),.int .i64 t,.int .i64 (((r:Int)+2)%4),.int .i64 ((s:Int)+1)] w fun e w'=>e=.returned (.int .i64 P)/\Below w.heap.size w w'):=Hd<|fun w=>by
       have h:=jC d t (((r:Int)+2)%4) ((s:Int)+1) w ap.1 (by omega) (by omega) (by omega) (by omega);rwa[HP.1]at h
      have aY:=Hd hC;clear hC;have e3:((r:Int)+2).tmod 4=((r:Int)+2)%4:=Int.tmod_eq_emod_of_nonneg (by omega);have e4:IntKind.i64.wrap ((r:Int)+2)=(r:Int)+2:=IntWalk.i64_in _ (by omega);have a4:w.heap.size<wr.heap.size:=by omega
      go_wp2_with fail;have V:=dB wr;have ao:=au wr;refine wpB wr ?_
      repeat(go_big_quiet_step ((first
       | (go_at_call 230;with_reducible exact aV (ar.1 _))
       | (go_at_call 234;with_reducible exact aV (HC.1 _)))))
      refine wpQuiet_nil ?_;rintro _ ⟨⟨w2,hD⟩,rfl⟩;clear V ao hcc q e3 e4;have R:=Hd (aA H.1 hD);have ad:=Hd (D.1.below hD);have aQ:=hD.size;clear hD;by_cases a5:C≥0
      ·have I:=Hd (kw (x:=C) (by omega))
       go_wp2_with (at_builtin;refine fP rfl _ _ rfl (w.alloc (.cells (dv d) 36)).heap.size A m c _ C rfl ad.1 rfl (by omega) (by simp;omega) R.1 ?_;rintro g4 c4 w4 o4 b4 - -)
       go_roundw
       ·exact⟨s+1,_,m+1,c4,by omega,by go_num,rfl,by omega,by rw[(U s).1,B.1,I.1,←List.append_assoc];exact o4,b4⟩
       simp[intOf];omega
      have I:=Hd (mO (x:=C) (by omega));go_wp2;go_roundw
      ·exact⟨s+1,A,m,c,by omega,by go_num,rfl,by omega,by rw[(U s).1,B.1,I.1,List.append_nil];exact ad.1,R.1⟩
      simp[intOf];omega
     have W:(dC (k:Int)).toNat=s:=by omega
     have ay:=Hd W;rw[←hZ]at z;have aw:decide ((s:Int)+1<=1+(k:Int)%2)=false:=by simp;omega
     clear W hZ;go_wp2;go_roundw
     ·exact⟨k+1,A,m,c,by omega,by go_num,rfl,by omega,by rw[ae.1,ay.1,←List.append_assoc];exact D.1,H.1⟩
     simp[intOf];omega
   have aN:d.T=(k:Int):=by omega
   have be:=Hd aN;have a0:decide ((k:Int)<d.T)=false:=by simp;omega
   clear aN;go_wp2;go_roundw
   ·exact⟨r+1,A,m,c,by omega,by go_num,rfl,by omega,by rw[bc.1,show d.T.toNat=k by have:=be.1;omega,←List.append_assoc];exact D.1,H.1⟩
   simp[intOf];omega
  have aK:r=4:=by omega
  have a6:=Hd aK;have a1:decide ((r:Int)<4)=false:=by simp;omega
  have bs:=Hd D.1.len;clear aK hcc q;go_wp2_with fail;refine(qG A m c _ _ D.1.ints (by omega)).mono ?_;rintro e w9 ⟨A9,c9,rfl,⟨ys,oy,py,sy⟩,b9⟩;have HY:=Hd oy;have bb:=Hd (aA bo.1 (aA H.1 b9));have HE:=Hd (aL.1 ys (by rw[a6.1]at py;unfold jV;rw[if_pos bm];exact py) sy);clear oy py sy b9;go_wp2;go_ret;exact⟨A9,m,c9,rfl,by rw[←HE.1];exact HY.1.more (by omega),bb.1⟩
theorem uo(d:Dev)(n:Int)(w:World)(h:ed d n=false∨(ed d n=true/\(n%ag d=5∨n%ag d=6))) :
  Calls Tryz.prog 146 #[.agg (dv d),.int .i64 n] w fun e w'=>∃A m c,e=.returned (.slice A m c)/\Own w.heap.size w' A m c (nX d n)/\Below w.heap.size w w':=by
 have D:=Hd (aB (Below.refl w.heap.size w) (.cells (dv d) 36))
 rcases h with j|⟨j,R⟩
 ·have K:=Hd (Jd j);have z:Hv (∀w,Calls Tryz.prog 207 #[.agg (dv d),.int .i64 n] w fun e w'=>e=.returned (.bool false)/\Below w.heap.size w w'):=Hd<|fun w=>by have h:=jw d n w;rwa[j]at h
  clear j;go_enter Tryz.func146,Tryz.ntmps146;go_wp2_with fail;refine(z.1 _).mono ?_;rintro e Y ⟨rfl,u⟩;have Q:=Hd ((Own.newAt (w:=(w.alloc (.cells (dv d) 36))) (base:=(w.alloc (.cells (dv d) 36)).heap.size) (g:=w.heap.size+1) (by simp) (by simp)).below u);have q:=Hd (aA (aB D.1 _) u);clear u;go_wp2;go_ret;exact⟨_,0,0,rfl,by rw[K.1];exact Q.1.more (by simp),q.1⟩
 have K:=Hd (Fp R);have H:gp d n=true:=by unfold ed at j;rw[Bool.and_eq_true]at j;exact j.1
 obtain⟨hd,W,n1,ae,hq1,aj,ah⟩:=kT H;have hT:=ak hd;have hp:=fT hd;have ad:=eu hd;have z:Hv (∀w,Calls Tryz.prog 207 #[.agg (dv d),.int .i64 n] w fun e w'=>e=.returned (.bool true)/\Below w.heap.size w w'):=Hd<|fun w=>by have h:=jw d n w;rwa[j]at h
 have e0:¬ag d=0:=by omega
 have e1:n.tmod (ag d)=n%ag d:=Int.tmod_eq_emod_of_nonneg W;have e2:IntKind.i64.wrap (n.tdiv (ag d))=n/ag d:=IntWalk.i64_quo _ _ ⟨W,by omega,by omega⟩;clear j H hd;go_enter Tryz.func146,Tryz.ntmps146;go_wp2_with fail;refine(z.1 _).mono ?_;rintro e Y ⟨rfl,u⟩;have Q:=Hd ((Own.newAt (w:=(w.alloc (.cells (dv d) 36))) (base:=(w.alloc (.cells (dv d) 36)).heap.size) (g:=w.heap.size+1) (by simp) (by simp)).below u);have q:=Hd (aA (aB (Below.refl _ _) _) u:Below (w.alloc (.cells (dv d) 36)).heap.size (w.alloc (.cells (dv d) 36)) Y);have J:=u.size;simp only[World.size_alloc]at J;clear u;obtain⟨hcc,B⟩:=az q.1;go_wp2_with fail;refine(fe d _ (by omega) (by omega)).mono ?_;rintro e w2 ⟨rfl,I⟩;have G:=Hd (aA q.1 I);have Z:=Hd (Q.1.below I);have af:=I.size;clear I hcc B;obtain⟨hcc,B⟩:=az G.1;go_wp2_with fail;refine(fe d _ (by omega) (by omega)).mono ?_;rintro e w3 ⟨rfl,V⟩;have U:=Hd (aA D.1 (aA G.1 V));have N3:=Hd (Z.1.below V);clear V hcc B;generalize n%ag d=pin at *
 have h2:((pin==5)=true)∨((pin==5)=false/\(pin==6)=true):=by
  rcases R with h|h
  ·exact .inl (by simpa using h)
  exact .inr ⟨by simp;omega,by simpa using h⟩
 clear R
 rcases h2 with q5|⟨q5,q6⟩
 all_goals
  go_wp2;go_ret;exact⟨_,0,0,rfl,by rw[K.1];exact N3.1.more (by simp),U.1⟩
theorem EE(d:Dev)(n:Int)(w:World) :
  Calls Tryz.prog 146 #[.agg (dv d),.int .i64 n] w fun e w'=>∃A m c,e=.returned (.slice A m c)/\Own w.heap.size w' A m c (nX d n)/\Below w.heap.size w w':=by
 cases g:ed d n with
 | false=>exact uo d n w (.inl g)
 | true =>
  by_cases j:n%ag d=5∨n%ag d=6
  ·exact uo d n w (.inr ⟨g,j⟩)
  rcases Int.lt_or_le (n%ag d) 5 with h|h
  ·exact ED d n w g h
  exact BI d n w g (by omega)
theorem NT(d:Dev)(t p:Int)(w:World) :
  Calls Tryz.prog 209 #[.agg (dv d),.int .i64 t,.int .i64 p] w fun e w'=>e=.returned (.int .i64 (fB d t p))/\Below w.heap.size w w':=by
 have G:Hv (fB d t p=if ai d t=true/\0<=p/\p<eU (ah d t)then t*ag d+5+p else -1):=Hd<|rfl
 have q:=Hd (aB (Below.refl w.heap.size w) (.cells (dv d) 36));by_cases j:p<0
 ·have B:Hv (fB d t p=-1):=Hd<|by show _=_;rw[G.1,if_neg];rintro⟨_,h0,_⟩;omega
  have dp:decide (p<0)=true:=decide_eq_true j;clear j;go_enter Tryz.func209,Tryz.ntmps209;go_wp2;go_ret;exact⟨aQ B.1.symm,q.1⟩
 have dp:decide (p<0)=false:=decide_eq_false j
 cases ht:ai d t with
 | false =>
  have B:Hv (fB d t p=-1):=Hd<|by show _=_;rw[G.1,if_neg];rintro⟨h0,_⟩;rw[ht]at h0;cases h0
  have z:Hv (lK d t=-1):=Hd<|by show _=_;unfold lK;rw[ht];rfl
  have dq:decide (p≥0)=true:=decide_eq_true (by omega);have Z:decide (0<=p)=true:=decide_eq_true (by omega);clear j ht;go_enter Tryz.func209,Tryz.ntmps209;go_wp2_with fail;refine(lH d t _).mono ?_;rw[z.1];rintro _ w2 ⟨rfl,u⟩;have g:=Hd (aA q.1 u);clear u;go_wp2_with fail;refine(lh (-1) _).mono ?_;rw[show eU (-1)=0 from rfl];rintro _ U ⟨rfl,rfl⟩;go_wp2;go_ret
  exact⟨aQ B.1.symm,g.1⟩
 | true =>
  have z:Hv (lK d t=ah d t):=Hd<|by show _=_;unfold lK;rw[if_pos ht]
  obtain⟨hd,H,ad⟩:=aP.1 ht;have af:=eu hd;have hT:=ak hd;have hp:=fT hd;have W:=iP d t;have HM:=Hd (iB H (show t<=35 by omega) (show 0<=ag d by omega) hp.2);have HT:=Hd ht;clear ht hd;go_enter Tryz.func209,Tryz.ntmps209;go_wp2_with fail;refine(lH d t _).mono ?_;rw[z.1];rintro _ w2 ⟨rfl,u⟩;have g:=Hd (aA q.1 u);have J:=u.size;simp only[World.size_alloc]at J;obtain⟨hcc,R⟩:=az u;clear u;generalize ah d t=K at *;go_wp2_with fail;refine(lh K _).mono ?_;generalize eU K=Q at *;rintro _ U ⟨rfl,rfl⟩;by_cases D:p<Q
  ·have Y:decide (p≥Q)=false:=by simp;omega
   have B:Hv (fB d t p=t*ag d+5+p):=Hd<|by show _=_;rw[G.1,if_pos ⟨HT.1,by omega,D⟩]
   go_wp2_with fail;refine(fe d _ (by omega) (by omega)).mono ?_;rintro _ U ⟨rfl,V⟩;have I:=Hd (aA g.1 V);have hM:=HM.1;clear V hcc R;go_wp2;go_ret;exact⟨aQ B.1.symm,I.1⟩
  have Y:decide (p≥Q)=true:=by simp;omega
  have B:Hv (fB d t p=-1):=Hd<|by show _=_;rw[G.1,if_neg];rintro⟨_,_,h1⟩;exact D h1
  go_wp2;go_ret;exact⟨aQ B.1.symm,g.1⟩
theorem sJ(d:Dev)(place:List Int)(N a b:Int)(ss:List aL)(PA SA:Oh)(pn pc m u:Nat)(w:World)(hp:bT w PA pn place)(am:pn<=1048576) :
  Calls Tryz.prog 119 #[.agg (dv d),.slice PA pn pc,.agg #[.int .i64 N,.int .i64 a,.int .i64 b,.slice SA m u]] w fun e w'=>e=.returned (.int .i64 (dN d place ⟨N,⟨a,b⟩,ss⟩))/\Below w.heap.size w w':=by
 have HP:=Hd hp;have q:dN d place ⟨N,⟨a,b⟩,ss⟩=if 0<=a/\a<(place.length:Int)then fB d (place[a.toNat]?.getD 0) b else -1:=rfl
 rw[hp.1]at q;clear hp;have j:=Hd (aB (aB (Below.refl w.heap.size w) (.cells (dv d) 36)) (.cells #[.int .i64 N,.int .i64 a,.int .i64 b,.slice SA m u] 158));have hx:=dP (.cells #[.int .i64 N,.int .i64 a,.int .i64 b,.slice SA m u] 158) (aG w (.cells (dv d) 36));have g:=aG (w.alloc (.cells (dv d) 36)) (.cells #[.int .i64 N,.int .i64 a,.int .i64 b,.slice SA m u] 158);simp only[World.size_alloc]at g;obtain⟨B,z⟩:=hd2 hx g;clear hx g;by_cases h1:a<0
 ·have dz:decide (a<0)=true:=decide_eq_true h1;have I:Hv (dN d place ⟨N,⟨a,b⟩,ss⟩=-1):=Hd<|by show _=_;rw[q,if_neg fun h=>by omega]
  clear q;go_enter Tryz.func119,Tryz.ntmps119;go_upto_region 1 with fail;generalize (w.alloc (.cells (dv d) 36)).alloc (.cells #[.int .i64 N,.int .i64 a,.int .i64 b,.slice SA m u] 158)=D at *;have hx:=B.1;have g:=z.1;obtain⟨V,x1,K,Q⟩:=cs4 hx;obtain⟨y0,W,y2,y3⟩:=cs4 g;have Y:=aH hx;have Z:=aH g;clear hx g;go_wp2;go_ret;exact⟨aQ I.1.symm,j.1⟩
 have dz:decide (a<0)=false:=decide_eq_false h1;by_cases h2:(pn:Int)<=a
 ·have dp:decide ((pn:Int)<=a)=true:=decide_eq_true h2;have R:decide (a≥(pn:Int))=true:=decide_eq_true h2;have I:Hv (dN d place ⟨N,⟨a,b⟩,ss⟩=-1):=Hd<|by show _=_;rw[q,if_neg fun h=>by omega]
  clear q;go_enter Tryz.func119,Tryz.ntmps119;go_upto_region 1 with fail;generalize (w.alloc (.cells (dv d) 36)).alloc (.cells #[.int .i64 N,.int .i64 a,.int .i64 b,.slice SA m u] 158)=D at *;have hx:=B.1;have g:=z.1;obtain⟨V,x1,K,Q⟩:=cs4 hx;obtain⟨y0,W,y2,y3⟩:=cs4 g;have Y:=aH hx;have Z:=aH g;clear hx g;go_wp2;go_ret;exact⟨aQ I.1.symm,j.1⟩
 have dp:decide ((pn:Int)<=a)=false:=decide_eq_false h2;have R:decide (a≥(pn:Int))=false:=decide_eq_false h2;obtain⟨X,rfl⟩:∃X:Nat,a=(X:Int):=⟨a.toNat,by omega⟩;have hX:X<pn:=by omega
 rw[if_pos ⟨by omega,by omega⟩,Int.toNat_natCast]at q;obtain⟨bp,op,rfl,H,G⟩:=HP.1.2 (by omega);have cp:=(j.1.cell (p:=⟨bp,op+X,none⟩) H).trans (G X hX);have U:=aJ j.1 H;generalize place[X]?.getD 0=t at *;have I:=Hd q;have iX:(X:Int)<(pn:Int):=by omega
 have i0:(0:Int)<=(X:Int):=by omega
 clear q G;go_enter Tryz.func119,Tryz.ntmps119;go_upto_region 1 with fail;generalize (w.alloc (.cells (dv d) 36)).alloc (.cells #[.int .i64 N,.int .i64 (X:Int),.int .i64 b,.slice SA m u] 158)=D at *;have hx:=B.1;have g:=z.1;obtain⟨V,x1,K,Q⟩:=cs4 hx;obtain⟨y0,W,y2,y3⟩:=cs4 g;have Y:=aH hx;have Z:=aH g;clear hx g;have ah:=Hd (fun(x:Sub D)=>NT d t b x.v);go_upto_region 3 with fail;have J:=dB D;have ag:=au D;refine wpB D ?_
 repeat(go_big_quiet_step ((first
  | (go_at_call 209;with_reducible exact aV (ah.1 _)))))
 refine wpQuiet_nil ?_;rintro _ ⟨⟨w5,hD⟩,rfl⟩;clear J ag;have HD:=Hd (aA j.1 hD);clear hD V x1 K Q y0 W y2 y3 Y Z cp U;go_wp2;go_ret;exact⟨aQ I.1.symm,HD.1⟩
theorem tX(d:Dev)(place:List Int)(N a b:Int)(ss:List aL)(PA SA:Oh)(pn pc m V:Nat)(w:World)(hp:bT w PA pn place)(hs:RdC w w.heap.size (aZ ss) (.slice SA m V))(bb:pn<=1048576)(hm:m<=1048576) :
  Calls Tryz.prog 117 #[.agg (dv d),.slice PA pn pc,.agg #[.int .i64 N,.int .i64 a,.int .i64 b,.slice SA m V]] w fun e w'=>(eZ d place ⟨N,⟨a,b⟩,ss⟩/\(∃A c,e=.returned (.slice A m c)/\Own w.heap.size w' A m c (eD d place ⟨N,⟨a,b⟩,ss⟩))∨¬eZ d place ⟨N,⟨a,b⟩,ss⟩/\∃A c,e=.returned (.slice A 0 c))/\Below w.heap.size w w':=by
 obtain⟨HP,ay⟩:=hd2 hp hs;have K:Hv (ss.length=m):=Hd<|hs.pinN
 clear hp hs;have aj:=Hd (aB (aB (Below.refl w.heap.size w) (.cells (dv d) 36)) (.cells #[.int .i64 N,.int .i64 a,.int .i64 b,.slice SA m V] 158));have hx:=dP (.cells #[.int .i64 N,.int .i64 a,.int .i64 b,.slice SA m V] 158) (aG w (.cells (dv d) 36));have hy:=aG (w.alloc (.cells (dv d) 36)) (.cells #[.int .i64 N,.int .i64 a,.int .i64 b,.slice SA m V] 158);simp only[World.size_alloc]at hy;obtain⟨az,aO⟩:=hd2 hx hy;clear hx hy;go_enter Tryz.func117,Tryz.ntmps117;go_upto_region 1 with fail;generalize (w.alloc (.cells (dv d) 36)).alloc (.cells #[.int .i64 N,.int .i64 a,.int .i64 b,.slice SA m V] 158)=W9 at *;go_wp2
 go_loopw[7,8] (fun v i wr=>∃(k:Nat) (A:Oh) (c:Nat),k<=m/\i=.int .i64 (k:Int)/\v=.slice A k c/\aD W9 wr [.cel (aI ((ss.take k).map (df d place))) (.slice A k c)]/\∀j,j<k→0<=df d place (ss[j]?.getD aL.zero)) (fun _ i _=>m-(intOf i).toNat)
 ·exact⟨0,_,_,by omega,rfl,rfl,(aD.refl W9).pushNew 3 1,fun j hj=>by omega⟩
 obtain⟨k,A1,c1,hk,rfl,rfl,hs,H⟩:=hrel;obtain⟨HS,u⟩:=hd2 hs H;have g:=Hd (aA aj.1 hs.bel);clear hs H;obtain⟨x0,x1,x2,x3,lx⟩:=bA (aF HS.1.bel az.1);obtain⟨-,-,-,y3,ly⟩:=bA (aF HS.1.bel aO.1);have i0:(0:Int)<=(k:Int):=by omega
 by_cases aH:k<m
 ·have aw:=dT (by omega:k<m);have D:k<ss.length:=by rw[K.1];exact aH
  obtain⟨bs,os,ah,R,d0,Z⟩:=ay.1.pin (k:=k) D;have av:=Hd ah;have I:=aJ g.1 R;rw[←g.1.cell (p:=⟨bs,os+k*2,none⟩) R]at d0;rw[←g.1.cell (p:=⟨bs,os+k*2+1,none⟩) R]at Z;have W:Hv (0<=df d place (ss[k]?.getD aL.zero)→∀j,j<k+1→0<=df d place (ss[j]?.getD aL.zero)):=Hd<|fun h=>fQ u.1 h
  have q:Hv (¬0<=df d place (ss[k]?.getD aL.zero)→¬eZ d place ⟨N,⟨a,b⟩,ss⟩):=Hd<|fun h h'=>h (by rw[List.getElem?_eq_getElem D];exact h' _ (List.getElem_mem D))
  have B:=Hd (show(ss.take (k+1)).map (df d place)=(ss.take k).map (df d place)++[df d place (ss[k]?.getD aL.zero)] from by rw[bF (z:=aL.zero) D,List.map_append];rfl);clear D ah;obtain rfl:=av.1;generalize ss[k]?.getD aL.zero=p at *;obtain⟨x,y⟩:=p;simp only at d0 Z;have G:df d place ⟨x,y⟩=if 0<=x/\x<(place.length:Int)then qB d (place[x.toNat]?.getD 0) y else -1:=rfl
  rw[HP.1.1]at G;have i1:(k:Int)<(m:Int):=by omega
  by_cases h1:x<0
  ·have dz:decide (x<0)=true:=decide_eq_true h1;have Q:df d place ⟨x,y⟩=-1:=by rw[G,if_neg fun h=>by omega]
   have J:=Hd (q.1 (by omega));clear G Q W q B;go_upto_region 6 with fail;clear x0 x1 x2 x3 lx y3 ly d0 Z I;go_wp2;go_ret;exact⟨.inr ⟨J.1,_,_,rfl⟩,aB g.1 _⟩
  have dz:decide (x<0)=false:=decide_eq_false h1;by_cases h2:(pn:Int)<=x
  ·have dp:decide ((pn:Int)<=x)=true:=decide_eq_true h2;have aq:decide (x≥(pn:Int))=true:=decide_eq_true h2;have Q:df d place ⟨x,y⟩=-1:=by rw[G,if_neg fun h=>by omega]
   have J:=Hd (q.1 (by omega));clear G Q W q B;go_upto_region 6 with fail;clear x0 x1 x2 x3 lx y3 ly d0 Z I;go_wp2;go_ret;exact⟨.inr ⟨J.1,_,_,rfl⟩,aB g.1 _⟩
  have dp:decide ((pn:Int)<=x)=false:=decide_eq_false h2;have aq:decide (x≥(pn:Int))=false:=decide_eq_false h2;obtain⟨X,rfl⟩:∃X:Nat,x=(X:Int):=⟨x.toNat,by omega⟩;have hX:X<pn:=by omega
  rw[if_pos ⟨by omega,by omega⟩,Int.toNat_natCast]at G;obtain⟨bp,op,ag,Y,af⟩:=HP.1.2 (by omega);have aM:=Hd ag;have cp:=(g.1.cell (p:=⟨bp,op+X,none⟩) Y).trans (af X hX);have ar:=aJ g.1 Y;clear ag;obtain rfl:=aM.1;generalize place[X]?.getD 0=t at *;have aX:=Hd G;have iX:(X:Int)<(pn:Int):=by omega
  have bc:(0:Int)<=(X:Int):=by omega
  have aS:=Hd (fun(x:Sub wr)=>JH d t y x.v);clear G af;go_upto_region 8 with fail;have ae:=dB wr;have ao:=au wr;refine wpB wr ?_
  repeat(go_big_quiet_step ((first
   | (go_at_call 206;with_reducible exact aV (aS.1 _)))))
  refine wpQuiet_nil ?_;rintro _ ⟨⟨w5,hD⟩,rfl⟩;clear ae ao;have aK:=Hd (HS.1.below hD);have aU:=Hd (aA g.1 hD);clear hD x0 x1 x2 x3 lx y3 ly d0 Z I cp ar;rw[aX.1]at W q B;generalize qB d t y=z at *;by_cases hz:0<=z
  ·have dq:decide (z<0)=false:=decide_eq_false (by omega);have aN:=Hd (W.1 hz);clear W q
   go_wp2_with (at_builtin;refine bP rfl _ _ rfl _ (aK.1.alloc _) 0 A1 k c1 ((ss.take k).map (df d place)) z _ (0,0) rfl rfl rfl (aG _ _) (by omega) ?_;intro g9 cap w9 S9 aC;have ak:=Hd S9;clear S9 aC)
   go_roundw
   ·exact⟨k+1,_,_,by omega,by go_num,rfl,by rw[B.1];exact ak.1,aN.1⟩
   simp[intOf];omega
  have dq:decide (z<0)=true:=decide_eq_true (by omega);have J:=Hd (q.1 (by omega));clear W q B;go_wp2;go_ret;exact⟨.inr ⟨J.1,_,_,rfl⟩,aB aU.1 _⟩
 have U:k=m:=by omega
 have aw:=dF (by omega:m<=k)
 have J:Hv (eZ d place ⟨N,⟨a,b⟩,ss⟩):=Hd<|fun p hp=>by
  obtain⟨j,hj,rfl⟩:=List.getElem_of_mem hp;have h:=u.1 j (by rw[U,←K.1];exact hj);rwa[List.getElem?_eq_getElem hj]at h
 have HD:Hv (aD W9 wr [.cel (aI (eD d place ⟨N,⟨a,b⟩,ss⟩)) (.slice A1 m c1)]):=Hd<|by
  have h:=HS.1;rwa[U,List.take_of_length_le (by rw[K.1];exact Nat.le_refl _)]at h
 subst U;clear HS u;go_wp2;go_ret;exact⟨.inl ⟨J.1,_,_,rfl,(HD.1.owned 0 rfl).more aj.1.size⟩,g.1⟩
theorem Ka(d:Dev)(place:List Int)(N a b:Int)(ss:List aL)(PA SA:Oh)(pn pc m j:Nat)(w:World)(hp:bT w PA pn place)(hs:RdC w w.heap.size (aZ ss) (.slice SA m j))(g:pn<=1048576)(hm:m<=1048576) :
  Calls Tryz.prog 117 #[.agg (dv d),.slice PA pn pc,.agg #[.int .i64 N,.int .i64 a,.int .i64 b,.slice SA m j]] w fun e w'=>∃A q c,e=.returned (.slice A q c)/\(eZ d place ⟨N,⟨a,b⟩,ss⟩/\m=q/\bT w' A m (eD d place ⟨N,⟨a,b⟩,ss⟩)∨¬eZ d place ⟨N,⟨a,b⟩,ss⟩/\q=0)/\Below w.heap.size w w' :=
 (tX d place N a b ss PA SA pn pc m j w hp hs g hm).mono fun e w' ⟨h,hb⟩=>by
  rcases h with⟨h1,A,c,h2,h3⟩|⟨h1,A,c,h2⟩
  ·exact⟨A,m,c,h2,.inl ⟨h1,rfl,h3.ints⟩,hb⟩
  exact⟨A,0,c,h2,.inr ⟨h1,rfl⟩,hb⟩
end Go.Proofs.YtofihjoanjkdmaaGreat
