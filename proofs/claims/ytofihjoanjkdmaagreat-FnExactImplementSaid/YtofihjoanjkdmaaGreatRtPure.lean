/- The kinds of tiles and the states of a device: the program's answers and the reference's are one. -/
import Derived.Test.YtofihjoanjkdmaaGreatPads
namespace Go.Proofs.YtofihjoanjkdmaaGreat
set_option maxHeartbeats 1000000
set_option maxRecDepth 100000
open Go.RowKit
def ah(d:Dev)(t:Int):Int :=
 if t%d.W=0∨t%d.W=d.W-1∨t/d.W=0∨t/d.W=d.H-1 then 0 else if t%d.W=d.R then 2 else 1
theorem mQ(d:Dev)(t:Int):ah d t=0∨ah d t=1∨ah d t=2:=by
 unfold ah
 split
 ·simp
 split <;> simp
def jf(d:Dev)(t:Int):Int:=if bQ d=true/\0<=t/\t<d.W*d.H then ah d t else -1
theorem lw(d:Dev)(t:Int)(w:World)(hd:bQ d=true)(ht:0<=t)(g:t<=1099511627776) :
  Calls Tryz.prog 217 #[.agg (dv d),.int .i64 t] w fun e w'=>e=.returned (.int .i64 (ah d t))/\Below w.heap.size w w':=by
 obtain⟨z,q,G,D,_⟩:=ak hd;have u:¬d.W=0:=by omega
 have e1:t.tmod d.W=t%d.W:=Int.tmod_eq_emod_of_nonneg ht;have e2:IntKind.i64.wrap (t.tdiv d.W)=t/d.W:=IntWalk.i64_quo _ _ ⟨ht,by omega,by omega⟩;have j:0<=t%d.W:=Int.emod_nonneg _ u;have B:t%d.W<d.W:=Int.emod_lt_of_pos _ (by omega);clear hd;go_enter Tryz.func217,Tryz.ntmps217;go_wp2_with fail
 go_quiet (fail)
 clear e1 e2;go_wp2_with fail
 all_goals(go_ret;exact⟨aQ (by(try simp only[beq_iff_eq,beq_eq_false_iff_ne,ne_eq]at *);first|(rw[ah,if_pos (by omega)])|(rw[ah,if_neg (by omega),if_pos (by omega)])|(rw[ah,if_neg (by omega),if_neg (by omega)])),ae (aB (Below.refl _ _) _) _⟩)
theorem qP(d:Dev)(t:Int)(w:World)(I:t<=1099511627776) :
  Calls Tryz.prog 113 #[.agg (dv d),.int .i64 t] w fun e w'=>e=.returned (.int .i64 (jf d t))/\Below w.heap.size w w':=by
 go_enter Tryz.func113,Tryz.ntmps113;go_wp2_with fail;refine(dw d _).mono ?_;rintro e Z ⟨rfl,q⟩;obtain⟨hcc,V⟩:=az q;have g:=Hd (aA (aB (Below.refl _ _) _) q);clear q
 cases hd:bQ d with
 | false =>
  have j:=Hd hd;clear hd;go_wp2;go_ret
  exact⟨aQ (by rw[jf,if_neg (by rw[j.1];simp)]),g.1⟩
 | true =>
  obtain⟨U,R,G⟩:=jQ hd;obtain⟨B,K,Y,H,_⟩:=ak hd;obtain⟨j,u⟩:=hd2 hd U;clear hd;by_cases h0:t<0
  ·go_wp2;go_ret;exact⟨aQ (by rw[jf,if_neg (by omega)]),g.1⟩
  by_cases h1:t≥(pW d:Int)
  ·go_wp2;go_ret;exact⟨aQ (by rw[jf,if_neg (by rw[u.1];omega)]),g.1⟩
  have z:¬d.W=0:=by omega
  have Q:0<=t%d.W:=Int.emod_nonneg _ z;have J:t%d.W<d.W:=Int.emod_lt_of_pos _ (by omega);have hk:jf d t=ah d t:=by rw[jf,if_pos ⟨j.1,by omega,by rw[u.1];omega⟩]
  have D:=Hd hk;clear hk;go_wp2_with fail
  all_goals(go_ret;exact⟨aQ (by rw[D.1];(try simp only[beq_iff_eq,beq_eq_false_iff_ne,ne_eq]at *);first|(rw[ah,if_pos (by omega)])|(rw[ah,if_neg (by omega),if_pos (by omega)])|(rw[ah,if_neg (by omega),if_neg (by omega)])),g.1⟩)
theorem GL{d:Dev}{t:Int}(hd:bQ d=true)(h0:0<=t)(h1:t<d.W*d.H):jf d t=ah d t:=by rw[jf,if_pos ⟨hd,h0,h1⟩]
def ag(d:Dev):Int:=7+4*d.T
def jK(k:Int):Int:=if k=0 then 1 else if k=1 then 5 else if k=2 then 4 else 0
def eU(k:Int):Int:=if k=0 then 1 else if k=1 then 2 else if k=2 then 1 else 0
def stX(d:Dev)(t r s:Int):Int:=if r=0 then t%d.W+s else if r=2 then t%d.W-s else t%d.W
def stY(d:Dev)(t r s:Int):Int:=if r=1 then t/d.W+s else if r=0 then t/d.W else if r=2 then t/d.W else t/d.W-s
def pQ(d:Dev)(t r s:Int):Bool:=inR (stX d t r s) 0 (d.W-1) && inR (stY d t r s) 0 (d.H-1)
def ax(d:Dev)(t r s:Int):Int:=if pQ d t r s=true then stY d t r s*d.W+stX d t r s else -1
def dC(k:Int):Int:=1+k%2
def fE(d:Dev):Int:=d.W*d.H*ag d
def ai(d:Dev)(t:Int):Bool:=bQ d && (decide (0<=t) && decide (t<d.W*d.H))
theorem aP{d:Dev}{t:Int}:ai d t=true↔bQ d=true/\0<=t/\t<d.W*d.H:=by simp[ai]
def fB(d:Dev)(t p:Int):Int:=if ai d t=true/\0<=p/\p<eU (ah d t)then t*ag d+5+p else -1
def eT(d:Dev)(t r k:Int):Int:=if ai d t=true/\(0<=r/\r<=3)/\(0<=k/\k<d.T)/\0<=ax d t r (dC k)then t*ag d+7+r*d.T+k else -1
def wL(d:Dev)(t k:Int):Bool :=
 if k<5 then decide (k<jK (ah d t))else if k<7 then decide (k-5<eU (ah d t))else decide (0<=ax d t ((k-7)/d.T) (dC ((k-7)%d.T)))
def gp(d:Dev)(n:Int):Bool:=bQ d && (decide (0<=n) && decide (n<fE d))
def ed(d:Dev)(n:Int):Bool:=gp d n && wL d (n/ag d) (n%ag d)
theorem eu{d:Dev}(h:bQ d=true):9<=d.W*d.H/\d.W*d.H<=36:=by
 obtain⟨g,h1,h2⟩:=jQ h;omega
theorem fT{d:Dev}(h:bQ d=true):11<=ag d/\ag d<=23:=by
 have:=ak h;unfold ag;omega
theorem iB{a b A B:Int}(h0:0<=a)(h1:a<=A)(k0:0<=b)(k1:b<=B):0<=a*b/\a*b<=A*B :=
 ⟨Int.mul_nonneg h0 k0,Int.mul_le_mul h1 k1 k0 (by omega)⟩
theorem jg{d:Dev}(h:bQ d=true):99<=fE d/\fE d<=828:=by
 obtain⟨h1,h2⟩:=eu h;obtain⟨h3,g⟩:=fT h;unfold fE;refine⟨?_,(iB (by omega) h2 (by omega) g).2⟩;have:9*11<=d.W*d.H*ag d:=Int.mul_le_mul h1 h3 (by omega) (by omega);omega
theorem jL{d:Dev}{t:Int}(h:ai d t=true):0<=t%d.W/\t%d.W<d.W/\0<=t/d.W/\t/d.W<d.H/\t=t/d.W*d.W+t%d.W:=by
 obtain⟨hd,h0,h1⟩:=aP.1 h;obtain⟨g,j,_⟩:=ak hd;refine⟨Int.emod_nonneg _ (by omega),Int.emod_lt_of_pos _ (by omega),Int.ediv_nonneg h0 (by omega),?_,?_⟩
 ·exact Int.ediv_lt_of_lt_mul (by omega) (by rw[Int.mul_comm];exact h1)
 have:=Int.emod_add_mul_ediv t d.W;rw[Int.mul_comm (t/d.W)];omega
theorem kT{d:Dev}{n:Int}(h:gp d n=true):bQ d=true/\0<=n/\n<=827/\0<=n/ag d/\n/ag d<d.W*d.H/\0<=n%ag d/\n%ag d<ag d:=by
 simp only[gp,Bool.and_eq_true,decide_eq_true_eq]at h;obtain⟨hd,h0,h1⟩:=h;have:=jg hd;have hp:=fT hd;exact⟨hd,h0,by omega,Int.ediv_nonneg h0 (by omega),Int.ediv_lt_of_lt_mul (by omega) h1,Int.emod_nonneg _ (by omega),Int.emod_lt_of_pos _ (by omega)⟩
theorem ky{d:Dev}{n:Int}(h:gp d n=true):ai d (n/ag d)=true:=by
 obtain⟨hd,_,_,h1,h2,_⟩:=kT h;exact aP.2 ⟨hd,h1,h2⟩
theorem qj{a b q r:Int}(h:a=q*b+r)(h0:0<=r)(h1:r<b):a/b=q/\a%b=r:=by
 subst h
 constructor
 ·rw[Int.add_comm,Int.add_mul_ediv_right _ _ (by omega),Int.ediv_eq_zero_of_lt h0 h1];omega
 rw[Int.add_comm,Int.add_mul_emod_self_right,Int.emod_eq_of_lt h0 h1]
theorem Ji{d:Dev}{t r s:Int}(h:pQ d t r s=true):0<=stX d t r s/\stX d t r s<d.W/\0<=stY d t r s/\stY d t r s<d.H:=by
 simp only[pQ,Bool.and_eq_true,aR]at h;omega
theorem Io{d:Dev}(hd:bQ d=true){x y:Int}(hx:0<=x)(g:x<d.W)(q:0<=y)(j:y<d.H):ai d (y*d.W+x)=true/\(y*d.W+x)%d.W=x/\(y*d.W+x)/d.W=y:=by
 obtain⟨u,z,_⟩:=ak hd;obtain⟨e1,e2⟩:=qj (a:=y*d.W+x) rfl hx g;refine⟨aP.2 ⟨hd,?_,?_⟩,e2,e1⟩
 ·have:=Int.mul_nonneg q (show 0<=d.W by omega);omega
 have:y*d.W<=(d.H-1)*d.W:=Int.mul_le_mul_of_nonneg_right (by omega) (by omega);have e:(d.H-1)*d.W=d.W*d.H-d.W:=by rw[Int.sub_mul,Int.one_mul,Int.mul_comm]
 omega
theorem oL{d:Dev}{t r s:Int}(hd:bQ d=true)(h:0<=ax d t r s):pQ d t r s=true/\ai d (ax d t r s)=true/\ax d t r s%d.W=stX d t r s/\ax d t r s/d.W=stY d t r s:=by
 cases hs:pQ d t r s with
 | false=>rw[ax,hs]at h;simp at h
 | true =>
  rw[ax,if_pos hs];obtain⟨a,b,c,e⟩:=Ji hs;exact⟨rfl,Io hd a b c e⟩
theorem MJ{d:Dev}{t r s:Int}(h:pQ d t r s=false):ax d t r s=-1:=by rw[ax,h];simp
theorem kY{d:Dev}{t r s:Int}(hd:bQ d=true):-1<=ax d t r s/\ax d t r s<d.W*d.H:=by
 have:=eu hd
 cases hs:pQ d t r s with
 | false=>rw[MJ hs];omega
 | true =>
  have h0:0<=ax d t r s:=by
   rw[ax,if_pos hs];obtain⟨a,_,c,_⟩:=Ji hs;have:=Int.mul_nonneg c (show 0<=d.W by have:=ak hd;omega);omega
  have:=aP.1 (oL hd h0).2.1;omega
theorem KI{d:Dev}{t r s:Int}(ht:ai d t=true)(hr:0<=r)(z:r<=3)(h:0<=ax d t ((r+2)%4) s):ax d (ax d t ((r+2)%4) s) r s=t:=by
 have hd:=(aP.1 ht).1;obtain⟨_,_,B,D⟩:=oL hd h;obtain⟨q,H,y0,G,j⟩:=jL ht
 have g:stX d (ax d t ((r+2)%4) s) r s=t%d.W:=by
  rw[stX,B];have:r=0∨r=1∨r=2∨r=3:=by omega
  rcases this with rfl|rfl|rfl|rfl <;> simp[stX] <;> omega
 have u:stY d (ax d t ((r+2)%4) s) r s=t/d.W:=by
  rw[stY,D];have:r=0∨r=1∨r=2∨r=3:=by omega
  rcases this with rfl|rfl|rfl|rfl <;> simp[stY] <;> omega
 rw[ax,pQ,g,u,aR.2 ⟨q,by omega⟩,aR.2 ⟨y0,by omega⟩];simp only[Bool.and_self,if_true];exact j.symm
theorem MK{d:Dev}{t r s q:Int}(hd:bQ d=true)(hr:0<=r)(D:r<=3)(h:0<=ax d t r s)(B:0<=ax d t r q)(e:ax d t r s=ax d t r q):s=q:=by
 obtain⟨_,_,u,z⟩:=oL hd h;obtain⟨_,_,g,j⟩:=oL hd B;rw[e]at u z;rw[u]at g;rw[z]at j;have:r=0∨r=1∨r=2∨r=3:=by omega
 rcases this with rfl|rfl|rfl|rfl <;> simp[stX,stY]at g j <;> omega
/-! ### ascending lists -/
def ins:List Int→Int→List Int
 | [],x=>[x]
 | y::l,x=>if y<x then y::ins l x else if y=x then y::l else x::y::l
def asc(l:List Int):List Int:=l.foldl ins []
theorem yj{l:List Int}{x y:Int}:y∈ins l x↔y=x∨y∈l:=by
 induction l with
 | nil=>simp[ins]
 | cons z l ih =>
  rw[ins]
  split
  ·simp only[List.mem_cons,ih]
   constructor
   ·rintro(h|h|h) <;> simp[h]
   rintro(h|h|h) <;> simp[h]
  split
  ·rename_i h;subst h;simp only[List.mem_cons]
   constructor
   ·rintro(h|h) <;> simp[h]
   rintro(h|h|h) <;> simp[h]
  simp
def Asc(l:List Int):Prop:=l.Pairwise (·<·)
theorem Jj{l:List Int}{x:Int}(h:Asc l):Asc (ins l x):=by
 induction l with
 | nil=>simp[ins,Asc]
 | cons z l ih =>
  unfold Asc at *;rw[List.pairwise_cons]at h;rw[ins]
  split
  ·rw[List.pairwise_cons];refine⟨fun y g=>?_,ih h.2⟩
   rcases yj.1 g with rfl|g
   ·assumption
   exact h.1 y g
  split
  ·rw[List.pairwise_cons];exact h
  rw[List.pairwise_cons];refine⟨fun y g=>?_,List.pairwise_cons.2 h⟩
  rcases List.mem_cons.1 g with rfl|g
  ·omega
  have:=h.1 y g;omega
theorem Bz{l:List Int}:∀{l0:List Int},Asc l0→Asc (l.foldl ins l0)/\∀y,y∈l.foldl ins l0↔y∈l0∨y∈l:=by
 induction l with
 | nil=>intro l0 h;exact⟨h,by simp⟩
 | cons x l ih =>
  intro l0 h;obtain⟨h1,h2⟩:=ih (Jj (x:=x) h);refine⟨h1,fun y=>?_⟩;rw[List.foldl_cons,h2,yj,List.mem_cons]
  constructor
  ·rintro((h|h)|h) <;> simp[h]
  rintro(h|h|h) <;> simp[h]
theorem uK(l:List Int):Asc (asc l):=(Bz (l:=l) (l0:=[]) (by simp[Asc])).1
theorem rM{l:List Int}{y:Int}:y∈asc l↔y∈l:=by rw[asc,(Bz (l:=l) (l0:=[]) (by simp[Asc])).2];simp
theorem rO(l:List Int)(x:Int):asc (l++[x])=ins (asc l) x:=by simp[asc]
theorem mh(l:List Int)(x:Int):(ins l x).length<=l.length+1:=by
 induction l with
 | nil=>simp[ins]
 | cons z l ih =>
  rw[ins]
  split
  ·simp;omega
  split <;> simp
theorem iK(l:List Int):(asc l).length<=l.length:=by
 have:∀l0:List Int,(l.foldl ins l0).length<=l0.length+l.length:=by
  induction l with
  | nil=>intro l0;simp
  | cons x l ih=>intro l0;have h1:=ih (ins l0 x);have:=mh l0 x;simp only[List.foldl_cons,List.length_cons];omega
 simpa [asc]using this []
theorem pR:∀{l m:List Int},Asc l→Asc m→(∀y,y∈l↔y∈m)→l=m
 | [],[],_,_,_=>rfl
 | [],y::m,_,_,h=>by have:=(h y).2 (by simp);simp at this
 | x::l,[],_,_,h=>by have:=(h x).1 (by simp);simp at this
 | x::l,y::m,h1,h2,h=>by
  unfold Asc at *;rw[List.pairwise_cons]at h1 h2
  have j:x=y:=by
   have a:=(h x).1 (by simp);have b:=(h y).2 (by simp)
   rcases List.mem_cons.1 a with a|a
   ·exact a
   rcases List.mem_cons.1 b with b|b
   ·exact b.symm
   have:=h1.1 y b;have:=h2.1 x a;omega
  subst j;rw[pR (l:=l) (m:=m) h1.2 h2.2 fun z=>?_]
  constructor
  ·intro g;have:=(h z).1 (by simp[g])
   rcases List.mem_cons.1 this with rfl|this
   ·have:=h1.1 z g;omega
   exact this
  intro g;have:=(h z).2 (by simp[g])
  rcases List.mem_cons.1 this with rfl|this
  ·have:=h2.1 z g;omega
  exact this
theorem Ip{l m:List Int}(hp:l.Perm m)(hs:l.Pairwise (·<=·))(hn:m.Nodup):l=asc m:=by
 have hn':l.Pairwise (·≠·):=hp.nodup_iff.2 hn;refine pR ?_ (uK _) fun y=>by rw[rM];exact hp.mem_iff
 unfold Asc;exact(hs.and hn').imp fun⟨a,b⟩=>by omega
theorem KJ{l m:List Int}(h:∀y,y∈l↔y∈m):asc l=asc m:=pR (uK _) (uK _) fun y=>by rw[rM,rM];exact h y
/-! ### the sources of a node -/
def jv(d:Dev)(t r k s:Int):Int:=eT d (ax d t ((r+2)%4) s) r k
def nV(x:Int):List Int:=if 0<=x then[x]else[]
theorem uL{x y:Int}:y∈nV x↔y=x/\0<=x:=by unfold nV;split <;> simp[*]
def xM(d:Dev)(pin k:Int):Bool:=!(decide (d.T>1) && decide ((k+pin)%2=1))
def ym(d:Dev)(j g r k s:Int):Bool:=decide (r≠(j+2)%4) && ((decide (k=g) || decide (k=(g+1)%d.T)) && decide (s=dC k))
def nI(d:Dev)(pin r k s:Int):Bool:=if 7<=pin then ym d ((pin-7)/d.T) ((pin-7)%d.T) r k s else xM d pin k
def nJ(d:Dev)(t pin r k s:Int):List Int:=if nI d pin r k s=true then nV (jv d t r k s)else[]
def iy(d:Dev)(t pin r k:Int)(s:Nat):List Int:=(List.range s).flatMap fun(j:Nat)=>nJ d t pin r k ((j:Int)+1)
def jI(d:Dev)(t pin r:Int)(k:Nat):List Int:=(List.range k).flatMap fun(j:Nat)=>iy d t pin r (j:Int) (dC (j:Int)).toNat
def iO(d:Dev)(t pin:Int)(r:Nat):List Int:=(List.range r).flatMap fun(j:Nat)=>jI d t pin (j:Int) d.T.toNat
def jH(d:Dev)(t:Int):List Int:=if eU (ah d t)>1 then[fB d t 0,fB d t 1]else[fB d t 0]
def jV(d:Dev)(t pin:Int):List Int:=(if 7<=pin then jH d t else[])++iO d t pin 4
def nX(d:Dev)(n:Int):List Int:=if ed d n=true/\¬(n%ag d=5∨n%ag d=6)then asc (jV d (n/ag d) (n%ag d))else[]
theorem qE{d:Dev}{t r k s:Int}(_hd:bQ d=true)(h:0<=jv d t r k s) :
  ai d (ax d t ((r+2)%4) s)=true/\(0<=r/\r<=3)/\(0<=k/\k<d.T)/\0<=ax d (ax d t ((r+2)%4) s) r (dC k)/\jv d t r k s=ax d t ((r+2)%4) s*ag d+(7+r*d.T+k):=by
 unfold jv at h ⊢;unfold eT at h ⊢
 split at h
 ·rename_i hc;rw[if_pos hc];exact⟨hc.1,hc.2.1,hc.2.2.1,hc.2.2.2,by omega⟩
 omega
theorem nK{d:Dev}{t r k s:Int}(hd:bQ d=true)(h:0<=jv d t r k s):jv d t r k s/ag d=ax d t ((r+2)%4) s/\jv d t r k s%ag d=7+r*d.T+k/\7<=7+r*d.T+k:=by
 obtain⟨h1,⟨j,g⟩,⟨k0,k1⟩,_,e⟩:=qE hd h;have q:=ak hd;have hm:=iB j g (show 0<=d.T by omega) (Int.le_refl d.T);have:=qj (b:=ag d) e (by omega) (by unfold ag;omega);exact⟨this.1,this.2,by omega⟩
theorem ML{T r k j g:Int}(k0:0<=k)(k1:k<T)(u:0<=g)(q:g<T)(e:7+r*T+k=7+j*T+g):r=j/\k=g:=by
 have h1:=qj (a:=r*T+k) rfl k0 k1;have h2:=qj (a:=j*T+g) rfl u q;have e':r*T+k=j*T+g:=by omega
 rw[e']at h1;exact⟨h1.1.symm.trans h2.1,h1.2.symm.trans h2.2⟩
theorem kz{d:Dev}{t pin r k s y:Int}:y∈nJ d t pin r k s↔nI d pin r k s=true/\y=jv d t r k s/\0<=jv d t r k s:=by
 unfold nJ
 split
 ·rename_i h;rw[uL];simp[h]
 rename_i h;simp[h]
theorem oM{d:Dev}{t pin r k y:Int}{s:Nat}:y∈iy d t pin r k s↔∃j,j<s/\y∈nJ d t pin r k ((j:Int)+1):=by simp[iy]
theorem uM{d:Dev}{t pin r y:Int}{k:Nat}:y∈jI d t pin r k↔∃j,j<k/\y∈iy d t pin r (j:Int) (dC (j:Int)).toNat:=by simp[jI]
theorem KL{d:Dev}{t pin y:Int}{r:Nat}:y∈iO d t pin r↔∃j,j<r/\y∈jI d t pin (j:Int) d.T.toNat:=by simp[iO]
theorem vL{d:Dev}{t pin y:Int}(_hd:bQ d=true):y∈iO d t pin 4↔∃r k s:Int,(0<=r/\r<=3)/\(0<=k/\k<d.T)/\(1<=s/\s<=dC k)/\nI d pin r k s=true/\y=jv d t r k s/\0<=y:=by
 rw[KL]
 constructor
 ·rintro⟨r,hr,h⟩;obtain⟨k,hk,h⟩:=uM.1 h;obtain⟨s,hs,h⟩:=oM.1 h;obtain⟨h1,h2,h3⟩:=kz.1 h;exact⟨r,k,(s:Int)+1,by omega,by omega,by omega,h1,h2,by omega⟩
 rintro⟨r,k,s,hr,hk,hs,h1,h2,h3⟩;refine⟨r.toNat,by omega,uM.2 ⟨k.toNat,by omega,oM.2 ⟨(s-1).toNat,by rw[show((k.toNat:Nat):Int)=k by omega];omega,kz.2 ?_⟩⟩⟩;rw[show((r.toNat:Nat):Int)=r by omega,show((k.toNat:Nat):Int)=k by omega,show(((s-1).toNat:Nat):Int)+1=s by omega];exact⟨h1,h2,by omega⟩
theorem GM(d:Dev)(t pin r k s:Int):(nJ d t pin r k s).Nodup:=by
 unfold nJ nV
 split
 ·split <;> simp
 simp
theorem zq(n:Nat):(List.range n).Pairwise (·≠·):=List.nodup_range
theorem GN(d:Dev)(hd:bQ d=true)(t pin:Int):(iO d t pin 4).Nodup:=by
 have hk:∀r k:Int,0<=r/\r<=3→∀s:Nat,(iy d t pin r k s).Nodup:=by
  intro r k hr s;unfold List.Nodup iy;rw[List.pairwise_flatMap];refine⟨fun a _=>GM _ _ _ _ _ _,(zq _).imp ?_⟩;intro a b u x hx y g e;obtain⟨_,rfl,h1⟩:=kz.1 hx;obtain⟨_,rfl,h2⟩:=kz.1 g;have e1:=(nK hd h1).1;have e2:=(nK hd h2).1;rw[e,e2]at e1;have j:=(aP.1 (qE hd h1).1).2.1;have q:=(aP.1 (qE hd h2).1).2.1;have:=MK hd (by omega) (by omega) q j e1;omega
 have hr:∀r:Int,0<=r/\r<=3→(jI d t pin r d.T.toNat).Nodup:=by
  intro r hr;unfold List.Nodup jI;rw[List.pairwise_flatMap];refine⟨fun a _=>hk _ _ hr _,(zq _).imp ?_⟩;intro a b u x hx y g e;obtain⟨_,_,hx⟩:=oM.1 hx;obtain⟨_,_,g⟩:=oM.1 g;obtain⟨_,rfl,h1⟩:=kz.1 hx;obtain⟨_,rfl,h2⟩:=kz.1 g;have e1:=(nK hd h1).2.1;have e2:=(nK hd h2).2.1;rw[e,e2]at e1;have j:=(qE hd h1).2.2.1;have q:=(qE hd h2).2.2.1;have:=(ML q.1 q.2 j.1 j.2 e1).2;omega
 unfold List.Nodup iO;rw[List.pairwise_flatMap];refine⟨fun a z=>hr _ (by have:=List.mem_range.1 z;omega),(zq _).imp ?_⟩;intro a b u x hx y g e;obtain⟨_,_,hx⟩:=uM.1 hx;obtain⟨_,_,g⟩:=uM.1 g;obtain⟨_,_,hx⟩:=oM.1 hx;obtain⟨_,_,g⟩:=oM.1 g;obtain⟨_,rfl,h1⟩:=kz.1 hx;obtain⟨_,rfl,h2⟩:=kz.1 g;have e1:=(nK hd h1).2.1;have e2:=(nK hd h2).2.1;rw[e,e2]at e1;have j:=(qE hd h1).2.2.1;have q:=(qE hd h2).2.2.1;have:=(ML q.1 q.2 j.1 j.2 e1).1;omega
theorem iP(d:Dev)(t:Int):eU (ah d t)=1∨eU (ah d t)=2:=by
 rcases mQ d t with h|h|h <;> rw[h] <;> simp[eU]
theorem uN(d:Dev)(t:Int):1<=jK (ah d t)/\jK (ah d t)<=5:=by
 rcases mQ d t with h|h|h <;> rw[h] <;> simp[jK]
theorem CB{d:Dev}{t p:Int}(ht:ai d t=true)(h0:0<=p)(h1:p<eU (ah d t)):fB d t p=t*ag d+5+p:=by rw[fB,if_pos ⟨ht,h0,h1⟩]
theorem pU{d:Dev}{t p:Int}(ht:ai d t=true)(h0:0<=p)(h1:p<eU (ah d t)):fB d t p/ag d=t/\fB d t p%ag d=5+p/\0<=fB d t p:=by
 have hp:=fT (aP.1 ht).1;have:=iP d t;rw[CB ht h0 h1];have:=qj (a:=t*ag d+5+p) (b:=ag d) (q:=t) (r:=5+p) (by omega) (by omega) (by omega);have h3:=Int.mul_nonneg (aP.1 ht).2.1 (show 0<=ag d by omega);exact⟨this.1,this.2,by omega⟩
theorem vM{d:Dev}{t y:Int}:y∈jH d t↔∃p,(0<=p/\p<eU (ah d t))/\y=fB d t p:=by
 unfold jH;have:=iP d t
 split
 ·simp only[List.mem_cons,List.not_mem_nil,or_false]
  constructor
  ·rintro(rfl|rfl)
   ·exact⟨0,by omega,rfl⟩
   exact⟨1,by omega,rfl⟩
  rintro⟨p,hp,rfl⟩;have:p=0∨p=1:=by omega
  rcases this with rfl|rfl <;> simp
 simp only[List.mem_cons,List.not_mem_nil,or_false]
 constructor
 ·rintro rfl;exact⟨0,by omega,rfl⟩
 rintro⟨p,hp,rfl⟩;have:p=0:=by omega
 rw[this]
theorem GQ{d:Dev}{t pin:Int}(ht:ai d t=true):(jV d t pin).Nodup:=by
 have hd:=(aP.1 ht).1;unfold jV List.Nodup;rw[List.pairwise_append];have:=iP d t;refine⟨?_,GN d hd t pin,?_⟩
 ·split
  ·unfold jH
   split
   ·have g:=(pU ht (p:=0) (by omega) (by omega)).2.1;have e1:=(pU ht (p:=1) (by omega) (by omega)).2.1;simp only[List.pairwise_cons,List.mem_singleton,List.not_mem_nil,List.Pairwise.nil,and_true];refine⟨?_,by simp⟩;rintro a rfl e;rw[e,e1]at g;omega
   simp
  simp
 intro x hx y j e
 split at hx
 ·obtain⟨p,hp,rfl⟩:=vM.1 hx;obtain⟨r,k,s,_,_,_,_,h1,h2⟩:=(vL hd).1 j;have e1:=(pU ht hp.1 hp.2).2.1;have e2:=(nK hd (show 0<=jv d t r k s by omega));rw[e,h1,e2.2.1]at e1;omega
 simp at hx
theorem yD{d:Dev}{n:Int}{l:List Int}(h:ed d n=true)(hn:¬(n%ag d=5∨n%ag d=6))(hp:l.Perm (jV d (n/ag d) (n%ag d)))(hs:l.Pairwise (·<=·)):l=nX d n:=by
 have g:=h;unfold ed at g;rw[Bool.and_eq_true]at g;rw[nX,if_pos ⟨h,hn⟩];exact Ip hp hs (GQ (ky g.1))
end Go.Proofs.YtofihjoanjkdmaaGreat
