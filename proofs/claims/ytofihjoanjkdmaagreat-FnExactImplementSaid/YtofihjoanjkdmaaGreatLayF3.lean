/- The program's test whether a network of look-up tables is valid: of networks that are. -/
import Derived.Test.YtofihjoanjkdmaaGreatCopies
import Derived.Test.YtofihjoanjkdmaaGreatLayP3
import Derived.Test.YtofihjoanjkdmaaGreatLayRd
import Derived.Test.YtofihjoanjkdmaaGreatQb
import Derived.Test.YtofihjoanjkdmaaGreatRt4
namespace Go.Proofs.YtofihjoanjkdmaaGreat
set_option maxHeartbeats 4000000
set_option maxRecDepth 100000
open Go.RowKit
theorem BN(l:aU)(SA LA OA:Oh)(sn sc ln lc on oc:Nat)(w:World)(hi:0<=l.inputs/\l.inputs<=20)(h1:sn<=12)(h2:ln<=400)(h3:on<=16) :
  Calls Tryz.prog 174 #[ig l SA LA OA sn sc ln lc on oc] w fun e w'=>e=.returned (.int .i64 (1+l.inputs+(sn:Int)+(ln:Int)))/\Below w.heap.size w w':=by
 have g:=Hd (aB (Below.refl w.heap.size w) (.cells (bX l SA LA OA sn sc ln lc on oc) 41));have u:Hv (inR l.inputs 0 20=true):=Hd<|aR.2 hi
 have z:decide ((12:Int)<(sn:Int))=false:=decide_eq_false (by omega);have d2:decide ((400:Int)<(ln:Int))=false:=decide_eq_false (by omega);have d3:decide ((16:Int)<(on:Int))=false:=decide_eq_false (by omega);go_enter Tryz.func174,Tryz.ntmps174;go_wp2_with fail;refine(aM l.inputs 0 20 _).mono ?_;rw[u.1];rintro _ B ⟨rfl,rfl⟩;go_wp2_with fail;refine(wV l.inputs SA LA OA sn sc ln lc on oc _ hi.1 (by omega) (by omega) (by omega)).mono ?_;rintro _ D ⟨rfl,q⟩;have j:=Hd (aA g.1 q);clear q;go_wp2;go_ret;exact⟨rfl,j.1⟩
theorem Kk(m:Int)(w:World)(hm:0<=m/\m<=1) :
  Calls Tryz.prog 178 #[.agg #[.int .i64 0,.int .i64 m]] w fun e w'=>e=.returned (.bool true)/\Below w.heap.size w w':=by
 have g:=Hd (aB (Below.refl w.heap.size w) (.cells #[.int .i64 0,.int .i64 m] 188));have q:Hv (inR 0 0 4=true):=Hd<|by show _=_;decide
 have j:Hv (inR m 0 1=true):=Hd<|aR.2 hm
 clear hm;go_enter Tryz.func178,Tryz.ntmps178;go_wp2_with fail;refine(aM _ 0 4 _).mono ?_;rw[q.1];rintro _ u ⟨rfl,rfl⟩;go_wp2_with fail;refine(aM m 0 1 _).mono ?_;rw[j.1];rintro _ u ⟨rfl,rfl⟩;go_wp2;go_ret;exact⟨rfl,g.1⟩
theorem Km(m:Int)(w:World)(hm:0<=m/\m<=3) :
  Calls Tryz.prog 178 #[.agg #[.int .i64 1,.int .i64 m]] w fun e w'=>e=.returned (.bool true)/\Below w.heap.size w w':=by
 have g:=Hd (aB (Below.refl w.heap.size w) (.cells #[.int .i64 1,.int .i64 m] 188));have q:Hv (inR 1 0 4=true):=Hd<|by show _=_;decide
 have j:Hv (inR m 0 3=true):=Hd<|aR.2 hm
 clear hm;go_enter Tryz.func178,Tryz.ntmps178;go_wp2_with fail;refine(aM _ 0 4 _).mono ?_;rw[q.1];rintro _ u ⟨rfl,rfl⟩;go_wp2_with fail;refine(aM m 0 3 _).mono ?_;rw[j.1];rintro _ u ⟨rfl,rfl⟩;go_wp2;go_ret;exact⟨rfl,g.1⟩
theorem Kn(m:Int)(w:World)(hm:0<=m/\m<=15) :
  Calls Tryz.prog 178 #[.agg #[.int .i64 2,.int .i64 m]] w fun e w'=>e=.returned (.bool true)/\Below w.heap.size w w':=by
 have g:=Hd (aB (Below.refl w.heap.size w) (.cells #[.int .i64 2,.int .i64 m] 188));have q:Hv (inR 2 0 4=true):=Hd<|by show _=_;decide
 have j:Hv (inR m 0 15=true):=Hd<|aR.2 hm
 clear hm;go_enter Tryz.func178,Tryz.ntmps178;go_wp2_with fail;refine(aM _ 0 4 _).mono ?_;rw[q.1];rintro _ u ⟨rfl,rfl⟩;go_wp2_with fail;refine(aM m 0 15 _).mono ?_;rw[j.1];rintro _ u ⟨rfl,rfl⟩;go_wp2;go_ret;exact⟨rfl,g.1⟩
theorem Ko(m:Int)(w:World)(hm:0<=m/\m<=255) :
  Calls Tryz.prog 178 #[.agg #[.int .i64 3,.int .i64 m]] w fun e w'=>e=.returned (.bool true)/\Below w.heap.size w w':=by
 have g:=Hd (aB (Below.refl w.heap.size w) (.cells #[.int .i64 3,.int .i64 m] 188));have q:Hv (inR 3 0 4=true):=Hd<|by show _=_;decide
 have j:Hv (inR m 0 255=true):=Hd<|aR.2 hm
 clear hm;go_enter Tryz.func178,Tryz.ntmps178;go_wp2_with fail;refine(aM _ 0 4 _).mono ?_;rw[q.1];rintro _ u ⟨rfl,rfl⟩;go_wp2_with fail;refine(aM m 0 255 _).mono ?_;rw[j.1];rintro _ u ⟨rfl,rfl⟩;go_wp2;go_ret;exact⟨rfl,g.1⟩
theorem Kq(m:Int)(w:World)(hm:0<=m/\m<=65535) :
  Calls Tryz.prog 178 #[.agg #[.int .i64 4,.int .i64 m]] w fun e w'=>e=.returned (.bool true)/\Below w.heap.size w w':=by
 have g:=Hd (aB (Below.refl w.heap.size w) (.cells #[.int .i64 4,.int .i64 m] 188));have q:Hv (inR 4 0 4=true):=Hd<|by show _=_;decide
 have j:Hv (inR m 0 65535=true):=Hd<|aR.2 hm
 clear hm;go_enter Tryz.func178,Tryz.ntmps178;go_wp2_with fail;refine(aM _ 0 4 _).mono ?_;rw[q.1];rintro _ u ⟨rfl,rfl⟩;go_wp2_with fail;refine(aM m 0 65535 _).mono ?_;rw[j.1];rintro _ u ⟨rfl,rfl⟩;go_wp2;go_ret;exact⟨rfl,g.1⟩
theorem Ht(n:Nat)(m:Int)(w:World)(hn:n<=4)(hm:0<=m/\m<2 ^ 2 ^ n) :
  Calls Tryz.prog 178 #[.agg #[.int .i64 (n:Int),.int .i64 m]] w fun e w'=>e=.returned (.bool true)/\Below w.heap.size w w':=by
 have hc:n=0∨n=1∨n=2∨n=3∨n=4:=by omega
 rcases hc with rfl|rfl|rfl|rfl|rfl
 ·exact Kk m w ⟨hm.1,by have h:=hm.2;simp at h;omega⟩
 ·exact Km m w ⟨hm.1,by have h:=hm.2;simp at h;omega⟩
 ·exact Kn m w ⟨hm.1,by have h:=hm.2;simp at h;omega⟩
 ·exact Ko m w ⟨hm.1,by have h:=hm.2;simp at h;omega⟩
 exact Kq m w ⟨hm.1,by have h:=hm.2;simp at h;omega⟩
theorem ny(g:Int)(SA LA OA:Oh)(sn sc ln lc on oc:Nat)(w:World)(h0:0<=g)(h1:g<=1099511627776)(h2:sn<=1099511627776) :
  Calls Tryz.prog 177 #[.agg #[.int .i64 g,.slice SA sn sc,.slice LA ln lc,.slice OA on oc]] w fun e w'=>e=.returned (.int .i64 (1+g+(sn:Int)))/\Below w.heap.size w w':=by
 go_enter Tryz.func177,Tryz.ntmps177;go_wp2;go_ret;exact⟨rfl,aB (Below.refl _ _) _⟩
noncomputable def tb (P:Prop):Bool:=@decide P (Classical.propDecidable P)
theorem bZ{P:Prop}(h:P):tb P=true:=by unfold tb;exact @decide_eq_true P (Classical.propDecidable P) h
theorem dU{P:Prop}(h:¬P):tb P=false:=by unfold tb;exact @decide_eq_false P (Classical.propDecidable P) h
theorem mY{P:Prop}(h:P):Ending.returned (.bool true)=.returned (.bool (tb P)):=by rw[bZ h]
theorem bg{P:Prop}(h:¬P):Ending.returned (.bool false)=.returned (.bool (tb P)):=by rw[dU h]
def kN(xs:List Int)(m:Int):Prop:=∀x∈xs,0<=x/\x<m
def kP(k y:Int)(n:Nat):Prop:=k=0/\(0<=y/\y<=1)/\n=1∨k=1/\(0<=y/\y<=31)/\n=4
def jE(n:Nat)(m:Int):Prop:=n<=4/\0<=m/\m<2 ^ 2 ^ n
theorem pg(A:Oh)(n c:Nat)(xs:List Int)(m:Int)(w:World)(h:bT w A n xs)(hn:n<=1048576)(hm:0<=m/\m<=1048576) :
  Calls Tryz.prog 175 #[.slice A n c,.int .i64 m] w fun e w'=>e=.returned (.bool (tb (kN xs m)))/\w=w':=by
 have Q:=Hd h;clear h;go_enter Tryz.func175,Tryz.ntmps175;go_wp2
 go_loopw[9] (fun i wr=>∃k:Nat,k<=n/\i=.int .i64 (k:Int)/\w=wr/\∀j,j<k→0<=xs[j]?.getD 0/\xs[j]?.getD 0<m) (fun i _=>n-(intOf i).toNat)
 ·exact⟨0,by omega,rfl,rfl,fun j hj=>by omega⟩
 obtain⟨k,hk,rfl,rfl,g⟩:=hrel;have q:=Hd g;clear g;by_cases z:k<n
 ·have J:=dT (by omega:k<n);obtain⟨b,o,rfl,hb,hc⟩:=Q.1.2 (by omega);have D:=hc k z;have u:k<xs.length:=by rw[Q.1.1];exact z
  have I:=Hd (List.getElem_mem u);have B:Hv (0<=xs[k]?.getD 0/\xs[k]?.getD 0<m→∀j,j<k+1→0<=xs[j]?.getD 0/\xs[j]?.getD 0<m):=Hd<|fun h=>fQ q.1 h
  rw[List.getElem?_eq_getElem u,Option.getD_some]at D B;generalize xs[k]=x at *;obtain⟨U,V⟩:=ib (by omega:k<n);clear hc;by_cases hx:0<=x/\x<m
  ·have K:Hv (inR x 0 (m-1)=true):=Hd<|aR.2 ⟨hx.1,by have:=hx.2;omega⟩
   have G:=Hd (B.1 hx);clear hx B;go_wp2_with fail;refine(aM x 0 (m-1) _).mono ?_;rw[K.1];rintro _ w' ⟨rfl,rfl⟩;go_wp2;go_roundw
   ·exact⟨k+1,by omega,by go_num,by first|rfl|trivial,G.1⟩
   simp[intOf];omega
  have K:Hv (inR x 0 (m-1)=false):=Hd<|by
   show _=_
   cases h:inR x 0 (m-1)with
   | false=>rfl
   | true=>exact absurd (by have:=aR.1 h;omega) hx
  have R:Hv (¬kN xs m):=Hd<|fun h=>hx (h x I.1)
  clear hx B;go_wp2_with fail;refine(aM x 0 (m-1) _).mono ?_;rw[K.1];rintro _ w' ⟨rfl,rfl⟩;go_wp2;go_ret;exact⟨bg R.1,rfl⟩
 have H:k=n:=by omega
 subst H;have J:decide ((k:Int)<(k:Int))=false:=by simp
 go_wp2;go_ret;refine⟨mY fun x hx=>?_,rfl⟩;obtain⟨j,hj,rfl⟩:=List.getElem_of_mem hx;have:=q.1 j (by rw[←Q.1.1];exact hj);rwa[List.getElem?_eq_getElem hj,Option.getD_some]at this
theorem Kr(k y:Int)(A:Oh)(n c:Nat)(w:World) :
  Calls Tryz.prog 176 #[.agg #[.int .i64 k,.int .i64 y,.slice A n c]] w fun e w'=>e=.returned (.bool (tb (kP k y n)))/\Below w.heap.size w w':=by
 have j:=Hd (aB (Below.refl w.heap.size w) (.cells #[.int .i64 k,.int .i64 y,.slice A n c] 91));by_cases h0:k=0
 ·subst h0
  cases hr:inR y 0 1 with
  | false =>
   have q:Hv (¬kP 0 y n):=Hd<|by
    rintro(h|h)
    ·rw[aR.2 h.2.1]at hr;cases hr
    omega
   have u:=Hd hr;clear hr;go_enter Tryz.func176,Tryz.ntmps176;go_wp2_with fail;refine(aM y 0 1 _).mono ?_;rw[u.1];rintro _ z ⟨rfl,rfl⟩;go_wp2;go_ret
   exact⟨bg q.1,j.1⟩
  | true =>
   have u:=Hd hr;clear hr;by_cases g:n=1
   ·have B:((n:Int)==1)=true:=by simp;omega
    have q:Hv (kP 0 y n) :=Hd<| .inl ⟨rfl,aR.1 u.1,g⟩
    clear g;go_enter Tryz.func176,Tryz.ntmps176;go_wp2_with fail;refine(aM y 0 1 _).mono ?_;rw[u.1];rintro _ z ⟨rfl,rfl⟩;go_wp2;go_ret;exact⟨mY q.1,j.1⟩
   have B:((n:Int)==1)=false:=by simp;omega
   have q:Hv (¬kP 0 y n):=Hd<|by
    rintro(h|h)
    ·exact g h.2.2
    omega
   clear g;go_enter Tryz.func176,Tryz.ntmps176;go_wp2_with fail;refine(aM y 0 1 _).mono ?_;rw[u.1];rintro _ z ⟨rfl,rfl⟩;go_wp2;go_ret;exact⟨bg q.1,j.1⟩
 by_cases h1:k=1
 ·subst h1
  cases hr:inR y 0 31 with
  | false =>
   have q:Hv (¬kP 1 y n):=Hd<|by
    rintro(h|h)
    ·omega
    rw[aR.2 h.2.1]at hr;cases hr
   have u:=Hd hr;clear hr h0;go_enter Tryz.func176,Tryz.ntmps176;go_wp2_with fail;refine(aM y 0 31 _).mono ?_;rw[u.1];rintro _ z ⟨rfl,rfl⟩;go_wp2;go_ret
   exact⟨bg q.1,j.1⟩
  | true =>
   have u:=Hd hr;clear hr h0;by_cases g:n=4
   ·have B:((n:Int)==4)=true:=by simp;omega
    have q:Hv (kP 1 y n) :=Hd<| .inr ⟨rfl,aR.1 u.1,g⟩
    clear g;go_enter Tryz.func176,Tryz.ntmps176;go_wp2_with fail;refine(aM y 0 31 _).mono ?_;rw[u.1];rintro _ z ⟨rfl,rfl⟩;go_wp2;go_ret;exact⟨mY q.1,j.1⟩
   have B:((n:Int)==4)=false:=by simp;omega
   have q:Hv (¬kP 1 y n):=Hd<|by
    rintro(h|h)
    ·omega
    exact g h.2.2
   clear g;go_enter Tryz.func176,Tryz.ntmps176;go_wp2_with fail;refine(aM y 0 31 _).mono ?_;rw[u.1];rintro _ z ⟨rfl,rfl⟩;go_wp2;go_ret;exact⟨bg q.1,j.1⟩
 have H:(k==0)=false:=by simp;omega
 have B:(k==1)=false:=by simp;omega
 have G:((0:Int)==k)=false:=by simp;omega
 have D:((1:Int)==k)=false:=by simp;omega
 have q:Hv (¬kP k y n):=Hd<|by
  rintro(h|h)
  ·exact h0 h.1
  exact h1 h.1
 clear h0 h1;go_enter Tryz.func176,Tryz.ntmps176;go_wp2;go_ret;exact⟨bg q.1,j.1⟩
theorem Hu(m:Int)(w:World)(hm:¬(0<=m/\m<=1)) :
  Calls Tryz.prog 178 #[.agg #[.int .i64 0,.int .i64 m]] w fun e w'=>e=.returned (.bool false)/\Below w.heap.size w w':=by
 have g:=Hd (aB (Below.refl w.heap.size w) (.cells #[.int .i64 0,.int .i64 m] 188));have q:Hv (inR 0 0 4=true):=Hd<|by show _=_;decide
 have j:Hv (inR m 0 1=false):=Hd<|by
  show _=_
  cases h:inR m 0 1 with
  | false=>rfl
  | true=>exact absurd (aR.1 h) hm
 clear hm;go_enter Tryz.func178,Tryz.ntmps178;go_wp2_with fail;refine(aM _ 0 4 _).mono ?_;rw[q.1];rintro _ u ⟨rfl,rfl⟩;go_wp2_with fail;refine(aM m 0 1 _).mono ?_;rw[j.1];rintro _ u ⟨rfl,rfl⟩;go_wp2;go_ret;exact⟨rfl,g.1⟩
theorem Hw(m:Int)(w:World)(hm:¬(0<=m/\m<=3)) :
  Calls Tryz.prog 178 #[.agg #[.int .i64 1,.int .i64 m]] w fun e w'=>e=.returned (.bool false)/\Below w.heap.size w w':=by
 have g:=Hd (aB (Below.refl w.heap.size w) (.cells #[.int .i64 1,.int .i64 m] 188));have q:Hv (inR 1 0 4=true):=Hd<|by show _=_;decide
 have j:Hv (inR m 0 3=false):=Hd<|by
  show _=_
  cases h:inR m 0 3 with
  | false=>rfl
  | true=>exact absurd (aR.1 h) hm
 clear hm;go_enter Tryz.func178,Tryz.ntmps178;go_wp2_with fail;refine(aM _ 0 4 _).mono ?_;rw[q.1];rintro _ u ⟨rfl,rfl⟩;go_wp2_with fail;refine(aM m 0 3 _).mono ?_;rw[j.1];rintro _ u ⟨rfl,rfl⟩;go_wp2;go_ret;exact⟨rfl,g.1⟩
theorem Hy(m:Int)(w:World)(hm:¬(0<=m/\m<=15)) :
  Calls Tryz.prog 178 #[.agg #[.int .i64 2,.int .i64 m]] w fun e w'=>e=.returned (.bool false)/\Below w.heap.size w w':=by
 have g:=Hd (aB (Below.refl w.heap.size w) (.cells #[.int .i64 2,.int .i64 m] 188));have q:Hv (inR 2 0 4=true):=Hd<|by show _=_;decide
 have j:Hv (inR m 0 15=false):=Hd<|by
  show _=_
  cases h:inR m 0 15 with
  | false=>rfl
  | true=>exact absurd (aR.1 h) hm
 clear hm;go_enter Tryz.func178,Tryz.ntmps178;go_wp2_with fail;refine(aM _ 0 4 _).mono ?_;rw[q.1];rintro _ u ⟨rfl,rfl⟩;go_wp2_with fail;refine(aM m 0 15 _).mono ?_;rw[j.1];rintro _ u ⟨rfl,rfl⟩;go_wp2;go_ret;exact⟨rfl,g.1⟩
theorem Hz(m:Int)(w:World)(hm:¬(0<=m/\m<=255)) :
  Calls Tryz.prog 178 #[.agg #[.int .i64 3,.int .i64 m]] w fun e w'=>e=.returned (.bool false)/\Below w.heap.size w w':=by
 have g:=Hd (aB (Below.refl w.heap.size w) (.cells #[.int .i64 3,.int .i64 m] 188));have q:Hv (inR 3 0 4=true):=Hd<|by show _=_;decide
 have j:Hv (inR m 0 255=false):=Hd<|by
  show _=_
  cases h:inR m 0 255 with
  | false=>rfl
  | true=>exact absurd (aR.1 h) hm
 clear hm;go_enter Tryz.func178,Tryz.ntmps178;go_wp2_with fail;refine(aM _ 0 4 _).mono ?_;rw[q.1];rintro _ u ⟨rfl,rfl⟩;go_wp2_with fail;refine(aM m 0 255 _).mono ?_;rw[j.1];rintro _ u ⟨rfl,rfl⟩;go_wp2;go_ret;exact⟨rfl,g.1⟩
theorem H8(m:Int)(w:World)(hm:¬(0<=m/\m<=65535)) :
  Calls Tryz.prog 178 #[.agg #[.int .i64 4,.int .i64 m]] w fun e w'=>e=.returned (.bool false)/\Below w.heap.size w w':=by
 have g:=Hd (aB (Below.refl w.heap.size w) (.cells #[.int .i64 4,.int .i64 m] 188));have q:Hv (inR 4 0 4=true):=Hd<|by show _=_;decide
 have j:Hv (inR m 0 65535=false):=Hd<|by
  show _=_
  cases h:inR m 0 65535 with
  | false=>rfl
  | true=>exact absurd (aR.1 h) hm
 clear hm;go_enter Tryz.func178,Tryz.ntmps178;go_wp2_with fail;refine(aM _ 0 4 _).mono ?_;rw[q.1];rintro _ u ⟨rfl,rfl⟩;go_wp2_with fail;refine(aM m 0 65535 _).mono ?_;rw[j.1];rintro _ u ⟨rfl,rfl⟩;go_wp2;go_ret;exact⟨rfl,g.1⟩
theorem H9(n:Nat)(m:Int)(w:World)(hn:n<=4) :
  Calls Tryz.prog 178 #[.agg #[.int .i64 (n:Int),.int .i64 m]] w fun e w'=>e=.returned (.bool (tb (jE n m)))/\Below w.heap.size w w':=by
 by_cases hm:jE n m
 ·rw[bZ hm];exact Ht n m w hm.1 hm.2
 rw[dU hm];have hc:n=0∨n=1∨n=2∨n=3∨n=4:=by omega
 rcases hc with rfl|rfl|rfl|rfl|rfl
 ·exact Hu m w fun h=>hm ⟨by omega,h.1,by have h2:=h.2;simp;omega⟩
 ·exact Hw m w fun h=>hm ⟨by omega,h.1,by have h2:=h.2;simp;omega⟩
 ·exact Hy m w fun h=>hm ⟨by omega,h.1,by have h2:=h.2;simp;omega⟩
 ·exact Hz m w fun h=>hm ⟨by omega,h.1,by have h2:=h.2;simp;omega⟩
 exact H8 m w fun h=>hm ⟨by omega,h.1,by have h2:=h.2;simp;omega⟩
theorem EZ(l:aU)(SA LA OA:Oh)(sn sc ln lc on oc:Nat)(w:World)(h:¬((0<=l.inputs/\l.inputs<=20)/\sn<=12/\ln<=400/\on<=16)) :
  Calls Tryz.prog 174 #[ig l SA LA OA sn sc ln lc on oc] w fun e w'=>e=.returned (.int .i64 0)/\Below w.heap.size w w':=by
 have g:=Hd (aB (Below.refl w.heap.size w) (.cells (bX l SA LA OA sn sc ln lc on oc) 41))
 cases hr:inR l.inputs 0 20 with
 | false =>
  have j:=Hd hr;clear hr h;go_enter Tryz.func174,Tryz.ntmps174;go_wp2_with fail;refine(aM l.inputs 0 20 _).mono ?_;rw[j.1];rintro _ q ⟨rfl,rfl⟩;go_wp2;go_ret
  exact⟨rfl,g.1⟩
 | true =>
  have j:=Hd hr;have hi:=aR.1 hr;clear hr;by_cases h1:sn<=12
  ·have u:decide ((12:Int)<(sn:Int))=false:=decide_eq_false (by omega);by_cases h2:ln<=400
   ·have d2:decide ((400:Int)<(ln:Int))=false:=decide_eq_false (by omega);have h3:¬on<=16:=fun h3=>h ⟨hi,h1,h2,h3⟩;have d3:decide ((16:Int)<(on:Int))=true:=decide_eq_true (by omega);clear h h1 h2 h3 hi;go_enter Tryz.func174,Tryz.ntmps174;go_wp2_with fail;refine(aM l.inputs 0 20 _).mono ?_;rw[j.1];rintro _ q ⟨rfl,rfl⟩;go_wp2;go_ret;exact⟨rfl,g.1⟩
   have d2:decide ((400:Int)<(ln:Int))=true:=decide_eq_true (by omega);clear h h1 h2 hi;go_enter Tryz.func174,Tryz.ntmps174;go_wp2_with fail;refine(aM l.inputs 0 20 _).mono ?_;rw[j.1];rintro _ q ⟨rfl,rfl⟩;go_wp2;go_ret;exact⟨rfl,g.1⟩
  have u:decide ((12:Int)<(sn:Int))=true:=decide_eq_true (by omega);clear h h1 hi;go_enter Tryz.func174,Tryz.ntmps174;go_wp2_with fail;refine(aM l.inputs 0 20 _).mono ?_;rw[j.1];rintro _ q ⟨rfl,rfl⟩;go_wp2;go_ret;exact⟨rfl,g.1⟩
theorem nz(l:aU)(SA LA OA:Oh)(sn sc ln lc on oc:Nat)(w:World)(h:fA w l SA LA OA sn sc ln lc on oc) :
  Calls Tryz.prog 91 #[ig l SA LA OA sn sc ln lc on oc] w fun e w'=>e=.returned (.bool (tb (bJ l)))/\Below w.heap.size w w':=by
 have B:=Hd (aB (Below.refl w.heap.size w) (.cells (bX l SA LA OA sn sc ln lc on oc) 41));have bj:=Hd (aG w (.cells (bX l SA LA OA sn sc ln lc on oc) 41));obtain⟨aW,a1,aY⟩:=h.lens;obtain⟨HN,J,W,aM⟩:=hd4 h aW a1 aY;clear h aW a1 aY;by_cases hz:(0<=l.inputs/\l.inputs<=20)/\sn<=12/\ln<=400/\on<=16
 ·obtain⟨aO,az,bb,bc⟩:=hz;have HC:Hv ((l.count:Int)=1+l.inputs+(sn:Int)+(ln:Int)):=Hd<|by show _=_;have:=J.1;have:=W.1;unfold aU.count aU.first;omega
  have aN:Hv ((l.first:Int)=1+l.inputs+(sn:Int)):=Hd<|by show _=_;have:=J.1;unfold aU.first;omega
  have bs:((1+l.inputs+(sn:Int)+(ln:Int))==0)=false:=by simp;omega
  have a0:Hv (0<=1+l.inputs+(sn:Int)+(ln:Int)/\1+l.inputs+(sn:Int)+(ln:Int)<=1048576):=Hd<|⟨by omega,by omega⟩
  have U:=Hd aO;clear aO;go_enter Tryz.func91,Tryz.ntmps91;go_wp2_with fail;refine(BN l SA LA OA sn sc ln lc on oc _ U.1 az bb bc).mono ?_;rintro _ w1 ⟨rfl,b1⟩;have B1:=Hd b1;have aL:=Hd (aF b1 bj.1);obtain⟨-,x1,x2,x3,lx⟩:=bA aL.1;clear b1;go_wp2_with fail;refine(pg OA on oc l.outs _ _ (HN.1.below (aA B.1 B1.1)).ou.ints (by omega) a0.1).mono ?_;by_cases V:kN l.outs (1+l.inputs+(sn:Int)+(ln:Int))
  ·rw[bZ V];have be:=Hd V;clear V;rintro _ w2 ⟨rfl,rfl⟩;go_wp2
   go_loopw[22] (fun i wr=>∃k:Nat,k<=sn/\i=.int .i64 (k:Int)/\Below w1.heap.size w1 wr/\∀j,j<k→kP (l.seqs[j]?.getD Sq.zero).kind (l.seqs[j]?.getD Sq.zero).init (l.seqs[j]?.getD Sq.zero).ins.length/\kN (l.seqs[j]?.getD Sq.zero).ins (1+l.inputs+(sn:Int)+(ln:Int))) (fun i _=>sn-(intOf i).toNat)
   ·exact⟨0,by omega,rfl,Below.refl _ _,fun j hj=>by omega⟩
   obtain⟨k,hk,rfl,hb,G⟩:=hrel;obtain⟨HB,z⟩:=hd2 hb G;clear hb G;by_cases aT:k<sn
   ·have a8:=dT (by omega:k<sn);have ar:=Hd (HN.1.below (aA (aA B.1 B1.1) HB.1));obtain⟨b,o,S,m,p,rfl,a6,c0,c1,c2,r2⟩:=ar.1.sq.sq' (k:=k) (by rw[J.1];exact aT);have hm:(l.seqs[k]?.getD Sq.zero).ins.length=m:=r2.ints.1;have ax:=Hd r2;have HG:Hv (kP (l.seqs[k]?.getD Sq.zero).kind (l.seqs[k]?.getD Sq.zero).init m/\kN (l.seqs[k]?.getD Sq.zero).ins (1+l.inputs+(sn:Int)+(ln:Int))→∀j,j<k+1→kP (l.seqs[j]?.getD Sq.zero).kind (l.seqs[j]?.getD Sq.zero).init (l.seqs[j]?.getD Sq.zero).ins.length/\kN (l.seqs[j]?.getD Sq.zero).ins (1+l.inputs+(sn:Int)+(ln:Int))):=Hd<|fun h=>fQ z.1 (by rw[hm];exact h)
    have q:Hv (¬(kP (l.seqs[k]?.getD Sq.zero).kind (l.seqs[k]?.getD Sq.zero).init m/\kN (l.seqs[k]?.getD Sq.zero).ins (1+l.inputs+(sn:Int)+(ln:Int)))→¬bJ l):=Hd<|fun h hf=>h (by
     have h1:=hf.seqs k (by rw[J.1];exact aT);rw[hm]at h1
     exact⟨h1.1,by rw[←HC.1];exact h1.2⟩)
    generalize l.seqs[k]?.getD Sq.zero=s at *;obtain⟨i0,i1⟩:=ib (by omega:k<sn);clear r2 hm x1 x2 x3 lx;go_wp2_with fail;refine(Kr s.kind s.init S m p _).mono ?_;by_cases Q:kP s.kind s.init m
    ·rw[bZ Q];have ao:m<=4:=by rcases Q with h|h <;> omega
     have bl:=Hd Q;clear Q;rintro _ w3 ⟨rfl,b3⟩;obtain⟨-,-,y2,ly⟩:=j6 (aF b3 (aG wr (.cells #[.int .i64 s.kind,.int .i64 s.init,.slice S m p] 91)));have ag:=Hd (aA (aB (Below.refl wr.heap.size wr) (.cells #[.int .i64 s.kind,.int .i64 s.init,.slice S m p] 91)) b3);clear b3 c0 c1 c2;go_wp2_with fail;refine(pg S m p s.ins _ _ (ax.1.below ag.1).ints (by omega) a0.1).mono ?_;by_cases g:kN s.ins (1+l.inputs+(sn:Int)+(ln:Int))
     ·rw[bZ g];have ay:=Hd (HG.1 ⟨bl.1,g⟩);clear g HG q;rintro _ w4 ⟨rfl,rfl⟩;clear y2 ly;go_wp2;go_roundw
      ·exact⟨k+1,by omega,by go_num,aA HB.1 ag.1,ay.1⟩
      simp[intOf];omega
     rw[dU g];have HF:=Hd (q.1 fun h=>g h.2);clear g HG q;rintro _ w4 ⟨rfl,rfl⟩;clear y2 ly;go_wp2;go_ret;exact⟨bg HF.1,aA (aA (aA B.1 B1.1) HB.1) ag.1⟩
    rw[dU Q];have HF:=Hd (q.1 fun h=>Q h.1);clear Q HG q;rintro _ w3 ⟨rfl,b3⟩;have ag:=Hd (aA (aB (Below.refl wr.heap.size wr) (.cells #[.int .i64 s.kind,.int .i64 s.init,.slice S m p] 91)) b3);clear b3 c0 c1 c2;go_wp2;go_ret;exact⟨bg HF.1,aA (aA (aA B.1 B1.1) HB.1) ag.1⟩
   have a8:=dF (by omega:sn<=k);have aq:k=sn:=by omega
   have a9:Hv (∀j,j<sn→kP (l.seqs[j]?.getD Sq.zero).kind (l.seqs[j]?.getD Sq.zero).init (l.seqs[j]?.getD Sq.zero).ins.length/\kN (l.seqs[j]?.getD Sq.zero).ins (1+l.inputs+(sn:Int)+(ln:Int))):=Hd<|fun j hj=>z.1 j (by omega)
   have aP:=Hd (aF HB.1 aL.1);clear x1 x2 x3 lx z aq;obtain⟨-,-,x2,lx⟩:=j6 aP.1;obtain⟨wo,rfl⟩:∃y,y=wr:=⟨wr,rfl⟩;go_wp2
   go_loopw[40] (fun i wr=>∃k:Nat,k<=ln/\i=.int .i64 (k:Int)/\Below wo.heap.size wo wr/\∀j,j<k→jE (l.luts[j]?.getD Lt.zero).ins.length (l.luts[j]?.getD Lt.zero).mask/\kN (l.luts[j]?.getD Lt.zero).ins (1+l.inputs+(sn:Int)+(j:Int))) (fun i _=>ln-(intOf i).toNat)
   ·exact⟨0,by omega,rfl,Below.refl _ _,fun j hj=>by omega⟩
   obtain⟨k,hk,rfl,hb,G⟩:=hrel;obtain⟨R,z⟩:=hd2 hb G;clear hb G x2 lx;by_cases ap:k<ln
   ·have aS:=dT (by omega:k<ln);have ar:=Hd (HN.1.below (aA (aA (aA B.1 B1.1) HB.1) R.1));have aR:=Hd (aF R.1 aP.1);obtain⟨b,o,S,m,p,rfl,a6,c0,c1,r2⟩:=ar.1.lt.lut' (k:=k) (by rw[W.1];exact ap);have hm:(l.luts[k]?.getD Lt.zero).ins.length=m:=r2.ints.1;have ax:=Hd r2;have HG:Hv (jE m (l.luts[k]?.getD Lt.zero).mask/\kN (l.luts[k]?.getD Lt.zero).ins (1+l.inputs+(sn:Int)+(k:Int))→∀j,j<k+1→jE (l.luts[j]?.getD Lt.zero).ins.length (l.luts[j]?.getD Lt.zero).mask/\kN (l.luts[j]?.getD Lt.zero).ins (1+l.inputs+(sn:Int)+(j:Int))):=Hd<|fun h=>fQ z.1 (by rw[hm];exact h)
    have q:Hv (¬(jE m (l.luts[k]?.getD Lt.zero).mask/\kN (l.luts[k]?.getD Lt.zero).ins (1+l.inputs+(sn:Int)+(k:Int)))→¬bJ l):=Hd<|fun h hf=>h (by
     have h1:=hf.luts k (by rw[W.1];exact ap);rw[hm]at h1
     exact⟨⟨h1.1,h1.2.1⟩,by rw[←aN.1];exact h1.2.2⟩)
    generalize l.luts[k]?.getD Lt.zero=s at *;obtain⟨i0,i1⟩:=ib (by omega:k<ln);clear r2 hm;have Z:=Hd (aB (Below.refl wr.heap.size wr) (.cells #[.slice S m p,.int .i64 s.mask] 96));obtain⟨y0,y1,ly⟩:=iC (aG wr (.cells #[.slice S m p,.int .i64 s.mask] 96));have aZ:=aF Z.1 aR.1;obtain⟨x0,x1,x2,x3,lx⟩:=bA aZ;have bv:wr.heap.size≠w.heap.size:=by have:=aH aR.1;omega
    go_upto_region 13 with fail;generalize wr.alloc (.cells #[.slice S m p,.int .i64 s.mask] 96)=K at *;have ak:=Hd (fun(x:Sub K)=>ny l.inputs SA (some ⟨b,o,none⟩) OA sn sc ln lc on oc x.v U.1.1 (by have:=U.1;omega) (by omega));have bm:=U.1.1;have bo:=U.1.2;clear c0 c1 aZ;by_cases ao:m<=4
    ·have hd4:decide ((4:Int)<(m:Int))=false:=decide_eq_false (by omega);have D:=fun(x:Sub K)=>pg S m p s.ins (1+l.inputs+(sn:Int)+(k:Int)) x.v (ax.1.below (aA Z.1 x.h)).ints (by omega) (by omega);have H:=fun(x:Sub K)=>H9 m s.mask x.v ao;by_cases g:kN s.ins (1+l.inputs+(sn:Int)+(k:Int))
     ·rw[bZ g]at D;by_cases Y:jE m s.mask
      ·rw[bZ Y]at H;obtain⟨ah,aC⟩:=hd2 D H;have ay:=Hd (HG.1 ⟨Y,g⟩);clear D H g Y HG q;have u:=dB K;have I:=au K;refine wpB K ?_
       repeat(go_big_quiet_step ((first
        | (go_at_call 177;with_reducible exact aV (ak.1 _))
        | (go_at_call 175;with_reducible exact aX (ah.1 _))
        | (go_at_call 178;with_reducible exact aV (aC.1 _)))))
       refine wpQuiet_nil ?_;rintro _ ⟨⟨w5,hD⟩,rfl⟩;clear u I;have HD:=Hd (aA Z.1 hD);clear hD x0 x1 x2 x3 lx y0 y1 ly;go_wp2;go_roundw
       ·exact⟨k+1,by omega,by go_num,aA R.1 HD.1,ay.1⟩
       simp[intOf];omega
      rw[dU Y]at H;obtain⟨ah,aC⟩:=hd2 D H;have HF:=Hd (q.1 fun h=>Y h.1);clear D H g Y HG q;have u:=dB K;have I:=au K;refine wpB K ?_
      repeat(go_big_quiet_step ((first
       | (go_at_call 177;with_reducible exact aV (ak.1 _))
       | (go_at_call 175;with_reducible exact aX (ah.1 _))
       | (go_at_call 178;with_reducible exact aV (aC.1 _)))))
      refine wpQuiet_nil ?_;rintro _ ⟨⟨w5,hD⟩,rfl⟩;clear u I;have HD:=Hd (aA Z.1 hD);clear hD x0 x1 x2 x3 lx y0 y1 ly;go_wp2;go_ret;exact⟨bg HF.1,aA (aA (aA (aA B.1 B1.1) HB.1) R.1) HD.1⟩
     rw[dU g]at D;have ah:=Hd D;have HF:=Hd (q.1 fun h=>g h.2);clear D H g HG q;have u:=dB K;have I:=au K;refine wpB K ?_
     repeat(go_big_quiet_step ((first
      | (go_at_call 177;with_reducible exact aV (ak.1 _))
      | (go_at_call 175;with_reducible exact aX (ah.1 _)))))
     refine wpQuiet_nil ?_;rintro _ ⟨⟨w5,hD⟩,rfl⟩;clear u I;have HD:=Hd (aA Z.1 hD);clear hD x0 x1 x2 x3 lx y0 y1 ly;go_wp2;go_ret;exact⟨bg HF.1,aA (aA (aA (aA B.1 B1.1) HB.1) R.1) HD.1⟩
    have hd4:decide ((4:Int)<(m:Int))=true:=decide_eq_true (by omega);have HF:=Hd (q.1 fun h=>ao h.1.1);clear HG q ao;have u:=dB K;have I:=au K;refine wpB K ?_
    repeat(go_big_quiet_step ((first
     | (go_at_call 177;with_reducible exact aV (ak.1 _)))))
    refine wpQuiet_nil ?_;rintro _ ⟨⟨w5,hD⟩,rfl⟩;clear u I;have HD:=Hd (aA Z.1 hD);clear hD x0 x1 x2 x3 lx y0 y1 ly;go_wp2;go_ret;exact⟨bg HF.1,aA (aA (aA (aA B.1 B1.1) HB.1) R.1) HD.1⟩
   have aS:=dF (by omega:ln<=k);have aq:k=ln:=by omega
   have bk:Hv (∀j,j<ln→jE (l.luts[j]?.getD Lt.zero).ins.length (l.luts[j]?.getD Lt.zero).mask/\kN (l.luts[j]?.getD Lt.zero).ins (1+l.inputs+(sn:Int)+(j:Int))):=Hd<|fun j hj=>z.1 j (by omega)
   have bd:=Hd (aA (aA (aA B.1 B1.1) HB.1) R.1);have aQ:Hv (bJ l):=Hd<|⟨U.1,by have:=J.1;omega,by have:=W.1;omega,by have:=aM.1;omega,by have:=be.1;rw[←HC.1]at this;exact this,fun i hi=>by have:=a9.1 i (by rw[←J.1];exact hi);rw[←HC.1]at this;exact this,fun i hi=>by have:=bk.1 i (by rw[←W.1];exact hi);rw[←aN.1]at this;exact⟨this.1.1,this.1.2,this.2⟩⟩
   clear z aq;go_wp2;go_ret;exact⟨mY aQ.1,bd.1⟩
  rw[dU V];have HF:Hv (¬bJ l):=Hd<|fun hf=>V (by rw[←HC.1];exact hf.outs)
  clear V;rintro _ w2 ⟨rfl,rfl⟩;go_wp2;go_ret;exact⟨bg HF.1,aA B.1 B1.1⟩
 have HF:Hv (¬bJ l):=Hd<|fun hf=>hz ⟨hf.inp,by have:=hf.nseq;have:=J.1;omega,by have:=hf.nlut;have:=W.1;omega,by have:=hf.nout;have:=aM.1;omega⟩
 go_enter Tryz.func91,Tryz.ntmps91;go_wp2_with fail;refine(EZ l SA LA OA sn sc ln lc on oc _ hz).mono ?_;rintro _ w1 ⟨rfl,b1⟩;have B1:=Hd b1;clear b1 hz;go_wp2;go_ret;exact⟨bg HF.1,aA B.1 B1.1⟩
theorem mZ(A:Oh)(n c:Nat)(xs:List Int)(x:Int)(w:World)(h:bT w A n xs)(hn:n<=1048576) :
  Calls Tryz.prog 129 #[.slice A n c,.int .i64 x] w fun e w'=>e=.returned (.bool (decide (x∈xs)))/\w=w':=by
 have K:=Hd h;clear h;go_enter Tryz.func129,Tryz.ntmps129;go_wp2
 go_loopw[9] (fun i wr=>∃k:Nat,k<=n/\i=.int .i64 (k:Int)/\w=wr/\∀j,j<k→xs[j]?.getD 0≠x) (fun i _=>n-(intOf i).toNat)
 ·exact⟨0,by omega,rfl,rfl,fun j hj=>by omega⟩
 obtain⟨k,hk,rfl,rfl,g⟩:=hrel;have q:=Hd g;clear g;by_cases B:k<n
 ·have J:=dT (by omega:k<n);obtain⟨b,o,rfl,hb,hc⟩:=K.1.2 (by omega);have D:=hc k B;have z:k<xs.length:=by rw[K.1.1];exact B
  have Q:=Hd (List.getElem_mem z);have I:Hv (xs[k]?.getD 0≠x→∀j,j<k+1→xs[j]?.getD 0≠x):=Hd<|fun h=>fQ q.1 h
  rw[List.getElem?_eq_getElem z,Option.getD_some]at D I;generalize xs[k]=y at *;obtain⟨R,U⟩:=ib (by omega:k<n);clear hc;by_cases u:y=x
  ·subst u;go_wp2;go_ret;exact⟨fH (decide_eq_true Q.1).symm,rfl⟩
  have G:=Hd (I.1 u);have hd:(y==x)=false:=by simp;omega
  clear u I;go_wp2;go_roundw
  ·exact⟨k+1,by omega,by go_num,by first|rfl|trivial,G.1⟩
  simp[intOf];omega
 have H:k=n:=by omega
 subst H;have J:decide ((k:Int)<(k:Int))=false:=by simp
 go_wp2;go_ret;refine⟨fH (decide_eq_false fun hx=>?_).symm,rfl⟩;obtain⟨j,hj,rfl⟩:=List.getElem_of_mem hx;exact q.1 j (by rw[←K.1.1];exact hj) (by rw[List.getElem?_eq_getElem hj];rfl)
theorem sD(A:Oh)(n c:Nat)(xs:List Int)(x:Int)(w:World)(h:bT w A n xs)(hn:n<=1048576) :
  Calls Tryz.prog 208 #[.slice A n c,.int .i64 x] w fun e w'=>e=.returned (.bool (decide (x∈xs)))/\w=w':=by
 have K:=Hd h;clear h;go_enter Tryz.func208,Tryz.ntmps208;go_wp2
 go_loopw[5] (fun i wr=>∃k:Nat,k<=n/\i=.int .i64 (k:Int)/\w=wr/\∀j,j<k→xs[j]?.getD 0≠x) (fun i _=>n-(intOf i).toNat)
 ·exact⟨0,by omega,rfl,rfl,fun j hj=>by omega⟩
 obtain⟨k,hk,rfl,rfl,g⟩:=hrel;have q:=Hd g;clear g;by_cases B:k<n
 ·have J:=dT (by omega:k<n);obtain⟨b,o,rfl,hb,hc⟩:=K.1.2 (by omega);have D:=hc k B;have z:k<xs.length:=by rw[K.1.1];exact B
  have Q:=Hd (List.getElem_mem z);have I:Hv (xs[k]?.getD 0≠x→∀j,j<k+1→xs[j]?.getD 0≠x):=Hd<|fun h=>fQ q.1 h
  rw[List.getElem?_eq_getElem z,Option.getD_some]at D I;generalize xs[k]=y at *;obtain⟨R,U⟩:=ib (by omega:k<n);clear hc;by_cases u:y=x
  ·subst u;go_wp2;go_ret;exact⟨fH (decide_eq_true Q.1).symm,rfl⟩
  have G:=Hd (I.1 u);have hd:(y==x)=false:=by simp;omega
  clear u I;go_wp2;go_roundw
  ·exact⟨k+1,by omega,by go_num,by first|rfl|trivial,G.1⟩
  simp[intOf];omega
 have H:k=n:=by omega
 subst H;have J:decide ((k:Int)<(k:Int))=false:=by simp
 go_wp2;go_ret;refine⟨fH (decide_eq_false fun hx=>?_).symm,rfl⟩;obtain⟨j,hj,rfl⟩:=List.getElem_of_mem hx;exact q.1 j (by rw[←K.1.1];exact hj) (by rw[List.getElem?_eq_getElem hj];rfl)
theorem oH(A:Oh)(n c:Nat)(xs:List Int)(w:World)(h:bT w A n xs)(hn:n<=1048576) :
  Calls Tryz.prog 124 #[.slice A n c] w fun e w'=>e=.returned (.bool (tb (∀k:Nat,k<n→xs[k]?.getD 0=1)))/\w=w':=by
 have R:=Hd h;clear h;go_enter Tryz.func124,Tryz.ntmps124;go_wp2
 go_loopw[7] (fun i wr=>∃k:Nat,k<=n/\i=.int .i64 (k:Int)/\w=wr/\∀j,j<k→xs[j]?.getD 0=1) (fun i _=>n-(intOf i).toNat)
 ·exact⟨0,by omega,rfl,rfl,fun j hj=>by omega⟩
 obtain⟨k,hk,rfl,rfl,q⟩:=hrel;have u:=Hd q;clear q;by_cases B:k<n
 ·have I:=dT (by omega:k<n);obtain⟨b,o,rfl,hb,hc⟩:=R.1.2 (by omega);have J:=hc k B;have H:Hv (xs[k]?.getD 0=1→∀j,j<k+1→xs[j]?.getD 0=1):=Hd<|fun h=>fQ u.1 h
  have z:Hv (xs[k]?.getD 0≠1→¬∀j:Nat,j<n→xs[j]?.getD 0=1):=Hd<|fun h K=>h (K k B)
  generalize xs[k]?.getD 0=y at *;obtain⟨U,V⟩:=ib (by omega:k<n);clear hc;by_cases g:y=1
  ·have D:=Hd (H.1 g);subst g;clear H z;go_wp2;go_roundw
   ·exact⟨k+1,by omega,by go_num,by first|rfl|trivial,D.1⟩
   simp[intOf];omega
  have Q:=Hd (z.1 g);have hd:(y==1)=false:=by simp;omega
  clear g H z;go_wp2;go_ret;exact⟨bg Q.1,rfl⟩
 have G:k=n:=by omega
 subst G;have I:decide ((k:Int)<(k:Int))=false:=by simp
 go_wp2;go_ret;exact⟨mY u.1,rfl⟩
theorem mi{α β:Type}{f:α→List β}{m:Nat}:∀{xs:List α},(∀x∈xs,(f x).length<=m)→(xs.flatMap f).length<=xs.length*m
 | [],_=>by simp
 | x::xs,h=>by
  rw[List.flatMap_cons,List.length_append,List.length_cons,Nat.succ_mul];have h1:=h x (by simp);have h2:=mi (xs:=xs) fun y g=>h y (by simp[g]);omega
theorem jT{l:aU}(hn:bJ l)(k:Nat):((l.luts.take k).flatMap Lt.ins).length<=1600:=by
 have h:=mi (f:=Lt.ins) (m:=4) (xs:=l.luts.take k) fun x hx=>by
  obtain⟨i,hi,rfl⟩:=List.getElem_of_mem (List.mem_of_mem_take hx);have:=(hn.luts i hi).1;rwa[List.getElem?_eq_getElem hi]at this
 have h2:(l.luts.take k).length<=l.luts.length:=by rw[List.length_take];omega
 have:=hn.nlut;have:=Nat.mul_le_mul_right 4 h2;omega
theorem oU{l:aU}(hn:bJ l)(k:Nat):((l.seqs.take k).flatMap Sq.ins).length<=48:=by
 have h:=mi (f:=Sq.ins) (m:=4) (xs:=l.seqs.take k) fun x hx=>by
  obtain⟨i,hi,rfl⟩:=List.getElem_of_mem (List.mem_of_mem_take hx);have:=(hn.seqs i hi).1;rw[List.getElem?_eq_getElem hi]at this
  rcases this with h|h <;> simp only[Option.getD_some]at h <;> omega
 have h2:(l.seqs.take k).length<=l.seqs.length:=by rw[List.length_take];omega
 have:=hn.nseq;have:=Nat.mul_le_mul_right 4 h2;omega
def fw(l:aU):List Int:=l.luts.flatMap Lt.ins++l.seqs.flatMap Sq.ins++l.outs
theorem Ah(l:aU)(n:Int):DT l n=cnt (fw l) n:=JZ l n
def mH(bs xs:List Int)(j:Nat):List Int:=bs++xs.take j
theorem oV(bs xs:List Int):mH bs xs 0=bs:=by simp[mH]
theorem oZ{bs xs:List Int}{n:Nat}(h:xs.length=n):mH bs xs n=bs++xs:=by rw[mH,List.take_of_length_le (by omega)]
theorem og{bs xs:List Int}{j:Nat}(h:j<xs.length):mH bs xs j++[xs[j]?.getD 0]=mH bs xs (j+1):=by
 rw[mH,mH,bF (z:=0) h,List.append_assoc]
theorem qx(bs xs:List Int)(j:Nat):(mH bs xs j).length<=bs.length+xs.length:=by
 rw[mH,List.length_append,List.length_take];omega
theorem Cj{l:aU}{k:Nat}(h:k<l.luts.length):(l.luts.take k).flatMap Lt.ins++(l.luts[k]?.getD Lt.zero).ins=(l.luts.take (k+1)).flatMap Lt.ins:=by
 rw[bF (z:=Lt.zero) h];simp
theorem vW{l:aU}{k:Nat}(h:k<l.seqs.length):(l.seqs.take k).flatMap Sq.ins++(l.seqs[k]?.getD Sq.zero).ins=(l.seqs.take (k+1)).flatMap Sq.ins:=by
 rw[bF (z:=Sq.zero) h];simp
theorem qy{q wr:World}{C g:Nat}{xs:List Int}{X:Nat}(hs:aD q wr [.cel (aI (aK C xs)) (.slice (some ⟨g,0,none⟩) C C)])(j:X<C) :
  wr.cell? ⟨g,X,none⟩=some (.int .i64 ((cnt xs (X:Int):Nat):Int))/\wr.frozen? ⟨g,X,none⟩=false/\g<wr.heap.size/\aD q (wr.setCell ⟨g,X,none⟩ (.int .i64 (((cnt xs (X:Int):Nat):Int)+1))) [.cel (aI (aK C (xs++[(X:Int)]))) (.slice (some ⟨g,0,none⟩) C C)]:=by
 obtain⟨G,hg,_,h2,h3,D,B⟩:=hs.setI 0 rfl j;injection hg with hg
 injection hg with hg
 subst hg;rw[jZ xs j]at h3;refine⟨h3,D,h2,?_⟩;have z:=B (((cnt xs (X:Int):Nat):Int)+1);have u:=xk (m:=C) xs (x:=(X:Int)) (by omega);rw[Int.toNat_natCast]at u;rw[u]at z;exact z
theorem ut(l:aU)(SA LA OA:Oh)(sn sc ln lc on oc:Nat)(w:World)(h:fA w l SA LA OA sn sc ln lc on oc)(hf:bJ l) :
  Calls Tryz.prog 248 #[ig l SA LA OA sn sc ln lc on oc] w fun e w'=>∃A,e=.returned (.slice A l.count l.count)/\Own w.heap.size w' A l.count l.count (aK l.count (fw l))/\Below w.heap.size w w':=by
 have bl:=Hd (aB (Below.refl w.heap.size w) (.cells (bX l SA LA OA sn sc ln lc on oc) 41));have bm:=Hd (aG w (.cells (bX l SA LA OA sn sc ln lc on oc) 41));obtain⟨a1,a4,a2⟩:=h.lens;have h1:=hf.nseq;have h2:=hf.nlut;have h3:=hf.nout;have bv:=Hd hf.inp;have a8:=hf.inp;obtain⟨HN,HF,aC,ay,bw⟩:=hd5 h hf a4 a1 a2;have hC:1+l.inputs+(sn:Int)+(ln:Int)=(l.count:Int):=by unfold aU.count aU.first;omega
 have aQ:Hv ((l.first:Int)+(ln:Int)=(l.count:Int)):=Hd<|by show _=_;unfold aU.count;omega
 obtain⟨C,au⟩:∃C,l.count=C:=⟨_,rfl⟩;have aw:=Hd au;rw[au]at hC;have bx:C<=433:=by omega
 have G:sn<=12:=by omega
 have bz:ln<=400:=by omega
 have bB:on<=16:=by omega
 obtain⟨i0,hi,aP,a0,aS⟩:=info_parts iE;have aR:=fun W=>dQ (P:=Tryz.prog) 26 3 i0 _ Tryz.underlying26 hi aP .i64 .i64 C C (Nat.le_refl _) (by rw[aS];omega) (by omega) W;rw[a0,Nat.mul_one,show(Value.int .i64 0).cells=#[Value.int .i64 0] from rfl,kM]at aR;have HC:=Hd hC;rw[au];clear h hf a1 a4 a2 h1 h2 h3 au hi aP a0 aS hC;go_enter Tryz.func248,Tryz.ntmps248;go_wp2_with fail;refine(wV l.inputs SA LA OA sn sc ln lc on oc _ (by omega) (by omega) (by omega) (by omega)).mono ?_;rw[HC.1];rintro _ z ⟨rfl,b1⟩;have av:=Hd (aF b1 bm.1);have H:=Hd (aA bl.1 b1);have aM:=(aD.refl z).consOwn (aB (Below.refl _ _) (.cells (arr (List.replicate C 0)) 3)) (Own.arr (n:=C) (aG z _) (Nat.le_refl _) (by unfold maxLen;omega) (by simp))
 have bc:=Hd (show aD z (z.alloc (.cells (arr (List.replicate C 0)) 3)) [.cel (aI (aK C ((l.luts.take 0).flatMap Lt.ins))) (.slice (some ⟨z.heap.size,0,none⟩) C C)] from by
  rw[List.take_zero,List.flatMap_nil,rE]
  exact aM)
 have a9:=Hd (aF aM.bel av.1);clear b1 aM a8;have hx:=a9.1;obtain⟨x0,x1,x2,x3,lx⟩:=bA hx;have bD:w.heap.size≠z.heap.size:=by have:=aH av.1;omega
 clear hx;go_wp2_with fail;clear x0 x1 x2 x3 lx aR
 go_loopw[20] (fun i wr=>∃k:Nat,k<=ln/\i=.int .i64 (k:Int)/\aD z wr [.cel (aI (aK C ((l.luts.take k).flatMap Lt.ins))) (.slice (some ⟨z.heap.size,0,none⟩) C C)]) (fun i _=>ln-(intOf i).toNat)
 ·exact⟨0,by omega,rfl,bc.1⟩
 obtain⟨k,hk,rfl,hs⟩:=hrel;have g:=Hd hs;clear hs;by_cases al:k<ln
 ·have ax:=dT (by omega:k<ln);obtain⟨b,o,S,m,p,hA,K,c0,c1,r2⟩:=HN.1.lt.lut' (k:=k) (by rw[aC.1];exact al);have J:=aA H.1 g.1.bel;have a7:=aJ J K;have c0:=(J.cell (p:=⟨b,o+k*2,none⟩) K).trans c0;have c1:=(J.cell (p:=⟨b,o+k*2+1,none⟩) K).trans c1;have az:=Hd r2;have Z:k<l.luts.length:=by rw[aC.1];exact al
  have ap:=Hd (show((l.luts.take k).flatMap Lt.ins)++(l.luts[k]?.getD Lt.zero).ins=(l.luts.take (k+1)).flatMap Lt.ins from by rw[Cj Z])
  have ak:Hv (∀n∈(l.luts[k]?.getD Lt.zero).ins,0<=n/\n<(C:Int)):=Hd<|fun n hn=>by
   have h:=(HF.1.luts k Z).2.2 n hn;have h2:=aw.1;have h3:=aQ.1;omega
  have ah:Hv (((l.luts.take k).flatMap Lt.ins).length+(l.luts[k]?.getD Lt.zero).ins.length<=3000):=Hd<|by
   show _<=_;have h1:=congrArg List.length ap.1;rw[List.length_append]at h1;have h2:=jT HF.1 (k+1);have h3:=oU HF.1 (k+1);have h4:=jT HF.1 l.luts.length;rw[List.take_length]at h4
   (try simp only[List.length_append]at h1 ⊢)
   omega
  subst hA;clear r2 Z;generalize l.luts[k]?.getD Lt.zero=x at *;generalize (l.luts.take k).flatMap Lt.ins=BS at *;have aE:=Hd (g.1.alloc (.cells #[.slice S m p,.int .i64 x.mask] 96));obtain⟨i0,i1⟩:=ib (by omega:k<ln);obtain⟨y0,ly⟩:=yU (aG wr (.cells #[.slice S m p,.int .i64 x.mask] 96));obtain⟨wo,rfl⟩:∃y,y=wr:=⟨wr,rfl⟩;go_wp2_with fail;clear c0 c1 y0 ly
  go_loopw[27] (fun i wr=>∃j:Nat,j<=m/\i=.int .i64 (j:Int)/\aD z wr [.cel (aI (aK C (mH (BS) (x.ins) j))) (.slice (some ⟨z.heap.size,0,none⟩) C C)]) (fun i _=>m-(intOf i).toNat)
  ·exact⟨0,by omega,rfl,by rw[oV];exact aE.1⟩
  obtain⟨j,hj,rfl,hs⟩:=hrel;have g:=Hd hs;have u:=Hd (az.1.ints);by_cases D:j<m
  ·have am:=dT (by omega:j<m);obtain⟨bt,ot,hA,Y,I⟩:=u.1.2 (by omega);have HA:=Hd hA;have aj:=((aA H.1 hs.bel).cell (p:=⟨bt,ot+j,none⟩) Y).trans (I j D);have aY:=aJ (aA H.1 hs.bel) Y;have B:j<(x.ins).length:=by rw[u.1.1];exact D
   have V:=ak.1 _ (List.getElem_mem B);have G:=og (bs:=BS) B;rw[List.getElem?_eq_getElem B,Option.getD_some]at aj G;have U:=qx (BS) (x.ins) j;have Q:=ah.1;have af:=u.1.1;generalize (x.ins)[j]=x at *;obtain⟨X,rfl⟩:=Int.eq_ofNat_of_zero_le V.1;have ar:X<C:=by omega
   obtain⟨cX,fX,lX,hN⟩:=qy hs ar;rw[G]at hN;have ai:=j5 (mH (BS) (x.ins) j) (X:Int);have ao:=Hd hN;clear hN G I hs;generalize cnt (mH (BS) (x.ins) j) (X:Int)=q at *;have hq:q<=10000:=by omega
   have aZ:j<=10000:=by omega
   clear ai U Q af B V;obtain⟨i0,i1⟩:=ib (by omega:j<m);obtain⟨i2,i3⟩:=ib (by omega:X<C);subst hA;go_wp2;go_roundw
   ·exact⟨j+1,by omega,by go_num,ao.1⟩
   simp[intOf];omega
  have R:j=m:=by omega
  have am:=dF (by omega:m<=j);have HD:=Hd (show aD z wr [.cel (aI (aK C ((BS)++(x.ins)))) (.slice (some ⟨z.heap.size,0,none⟩) C C)] from by rw[←oZ u.1.1,←R];exact hs);clear hs u g R;have aL:=Hd (show aD z wr [.cel (aI (aK C ((l.luts.take (k+1)).flatMap Lt.ins))) (.slice (some ⟨z.heap.size,0,none⟩) C C)] from by rw[←ap.1];exact HD.1);go_wp2;go_roundw
  ·exact⟨k+1,by omega,by go_num,aL.1⟩
  simp[intOf];omega
 have ag:k=ln:=by omega
 have ax:=dF (by omega:ln<=k)
 have a6:=Hd (show aD z wr [.cel (aI (aK C (l.luts.flatMap Lt.ins++(l.seqs.take 0).flatMap Sq.ins))) (.slice (some ⟨z.heap.size,0,none⟩) C C)] from by
  have h:=g.1;rw[ag,←aC.1,List.take_length]at h
  simpa using h)
 obtain⟨-,x1,lx⟩:=iC (aF g.1.bel av.1);clear ag g;obtain⟨wo,rfl⟩:∃y,y=wr:=⟨wr,rfl⟩;go_wp2_with fail;clear x1 lx
 go_loopw[42] (fun i wr=>∃k:Nat,k<=sn/\i=.int .i64 (k:Int)/\aD z wr [.cel (aI (aK C (l.luts.flatMap Lt.ins++(l.seqs.take k).flatMap Sq.ins))) (.slice (some ⟨z.heap.size,0,none⟩) C C)]) (fun i _=>sn-(intOf i).toNat)
 ·exact⟨0,by omega,rfl,a6.1⟩
 obtain⟨k,hk,rfl,hs⟩:=hrel;have g:=Hd hs;clear hs;by_cases al:k<sn
 ·have ax:=dT (by omega:k<sn);obtain⟨b,o,S,m,p,hA,K,c0,c1,c2,r2⟩:=HN.1.sq.sq' (k:=k) (by rw[ay.1];exact al);have J:=aA H.1 g.1.bel;have a7:=aJ J K;have c0:=(J.cell (p:=⟨b,o+k*3,none⟩) K).trans c0;have c1:=(J.cell (p:=⟨b,o+k*3+1,none⟩) K).trans c1;have c2:=(J.cell (p:=⟨b,o+k*3+2,none⟩) K).trans c2;have az:=Hd r2;have Z:k<l.seqs.length:=by rw[ay.1];exact al
  have ap:=Hd (show(l.luts.flatMap Lt.ins++(l.seqs.take k).flatMap Sq.ins)++(l.seqs[k]?.getD Sq.zero).ins=l.luts.flatMap Lt.ins++(l.seqs.take (k+1)).flatMap Sq.ins from by rw[List.append_assoc,vW Z])
  have ak:Hv (∀n∈(l.seqs[k]?.getD Sq.zero).ins,0<=n/\n<(C:Int)):=Hd<|fun n hn=>by
   have h:=(HF.1.seqs k Z).2 n hn;have h2:=aw.1;have h3:=aQ.1;omega
  have ah:Hv ((l.luts.flatMap Lt.ins++(l.seqs.take k).flatMap Sq.ins).length+(l.seqs[k]?.getD Sq.zero).ins.length<=3000):=Hd<|by
   show _<=_;have h1:=congrArg List.length ap.1;rw[List.length_append]at h1;have h2:=jT HF.1 (k+1);have h3:=oU HF.1 (k+1);have h4:=jT HF.1 l.luts.length;rw[List.take_length]at h4
   (try simp only[List.length_append]at h1 ⊢)
   omega
  subst hA;clear r2 Z;generalize l.seqs[k]?.getD Sq.zero=x at *;generalize l.luts.flatMap Lt.ins++(l.seqs.take k).flatMap Sq.ins=BS at *;have aE:=Hd (g.1.alloc (.cells #[.int .i64 x.kind,.int .i64 x.init,.slice S m p] 91));obtain⟨i0,i1⟩:=ib (by omega:k<sn);obtain⟨-,-,y2,ly⟩:=j6 (aG wr (.cells #[.int .i64 x.kind,.int .i64 x.init,.slice S m p] 91));obtain⟨wo,rfl⟩:∃y,y=wr:=⟨wr,rfl⟩;go_wp2_with fail;clear c0 c1 c2 y2 ly
  go_loopw[49] (fun i wr=>∃j:Nat,j<=m/\i=.int .i64 (j:Int)/\aD z wr [.cel (aI (aK C (mH (BS) (x.ins) j))) (.slice (some ⟨z.heap.size,0,none⟩) C C)]) (fun i _=>m-(intOf i).toNat)
  ·exact⟨0,by omega,rfl,by rw[oV];exact aE.1⟩
  obtain⟨j,hj,rfl,hs⟩:=hrel;have g:=Hd hs;have u:=Hd (az.1.ints);by_cases D:j<m
  ·have am:=dT (by omega:j<m);obtain⟨bt,ot,hA,Y,I⟩:=u.1.2 (by omega);have HA:=Hd hA;have aj:=((aA H.1 hs.bel).cell (p:=⟨bt,ot+j,none⟩) Y).trans (I j D);have aY:=aJ (aA H.1 hs.bel) Y;have B:j<(x.ins).length:=by rw[u.1.1];exact D
   have V:=ak.1 _ (List.getElem_mem B);have G:=og (bs:=BS) B;rw[List.getElem?_eq_getElem B,Option.getD_some]at aj G;have U:=qx (BS) (x.ins) j;have Q:=ah.1;have af:=u.1.1;generalize (x.ins)[j]=x at *;obtain⟨X,rfl⟩:=Int.eq_ofNat_of_zero_le V.1;have ar:X<C:=by omega
   obtain⟨cX,fX,lX,hN⟩:=qy hs ar;rw[G]at hN;have ai:=j5 (mH (BS) (x.ins) j) (X:Int);have ao:=Hd hN;clear hN G I hs;generalize cnt (mH (BS) (x.ins) j) (X:Int)=q at *;have hq:q<=10000:=by omega
   have aZ:j<=10000:=by omega
   clear ai U Q af B V;obtain⟨i0,i1⟩:=ib (by omega:j<m);obtain⟨i2,i3⟩:=ib (by omega:X<C);subst hA;go_wp2;go_roundw
   ·exact⟨j+1,by omega,by go_num,ao.1⟩
   simp[intOf];omega
  have R:j=m:=by omega
  have am:=dF (by omega:m<=j);have HD:=Hd (show aD z wr [.cel (aI (aK C ((BS)++(x.ins)))) (.slice (some ⟨z.heap.size,0,none⟩) C C)] from by rw[←oZ u.1.1,←R];exact hs);clear hs u g R;have aL:=Hd (show aD z wr [.cel (aI (aK C (l.luts.flatMap Lt.ins++(l.seqs.take (k+1)).flatMap Sq.ins))) (.slice (some ⟨z.heap.size,0,none⟩) C C)] from by rw[←ap.1];exact HD.1);go_wp2;go_roundw
  ·exact⟨k+1,by omega,by go_num,aL.1⟩
  simp[intOf];omega
 have ag:k=sn:=by omega
 have ax:=dF (by omega:sn<=k)
 have bg:=Hd (show aD z wr [.cel (aI (aK C (l.luts.flatMap Lt.ins++l.seqs.flatMap Sq.ins))) (.slice (some ⟨z.heap.size,0,none⟩) C C)] from by
  have h:=g.1
  rwa[ag,←ay.1,List.take_length]at h)
 obtain⟨-,-,-,x3,lx⟩:=bA (aF g.1.bel av.1);clear ag g
 have ak:Hv (∀n∈l.outs,0<=n/\n<(C:Int)):=Hd<|fun n hn=>by
  have h:=HF.1.outs n hn;have h2:=aw.1;omega
 have ah:Hv ((l.luts.flatMap Lt.ins++l.seqs.flatMap Sq.ins).length+l.outs.length<=3000):=Hd<|by
  show _<=_;have h3:=oU HF.1 l.seqs.length;have h4:=jT HF.1 l.luts.length;rw[List.take_length]at h3 h4;have h5:=HF.1.nout;rw[List.length_append];omega
 obtain⟨wo,rfl⟩:∃y,y=wr:=⟨wr,rfl⟩;go_wp2_with fail;clear x3 lx
 go_loopw[64] (fun i wr=>∃j:Nat,j<=on/\i=.int .i64 (j:Int)/\aD z wr [.cel (aI (aK C (mH (l.luts.flatMap Lt.ins++l.seqs.flatMap Sq.ins) (l.outs) j))) (.slice (some ⟨z.heap.size,0,none⟩) C C)]) (fun i _=>on-(intOf i).toNat)
 ·exact⟨0,by omega,rfl,by rw[oV];exact bg.1⟩
 obtain⟨j,hj,rfl,hs⟩:=hrel;have g:=Hd hs;have u:=Hd (HN.1.ou.ints);by_cases D:j<on
 ·have am:=dT (by omega:j<on);obtain⟨bt,ot,hA,Y,I⟩:=u.1.2 (by omega);have HA:=Hd hA;have aj:=((aA H.1 hs.bel).cell (p:=⟨bt,ot+j,none⟩) Y).trans (I j D);have aY:=aJ (aA H.1 hs.bel) Y;have B:j<(l.outs).length:=by rw[u.1.1];exact D
  have V:=ak.1 _ (List.getElem_mem B);have G:=og (bs:=l.luts.flatMap Lt.ins++l.seqs.flatMap Sq.ins) B;rw[List.getElem?_eq_getElem B,Option.getD_some]at aj G;have U:=qx (l.luts.flatMap Lt.ins++l.seqs.flatMap Sq.ins) (l.outs) j;have Q:=ah.1;have af:=u.1.1;generalize (l.outs)[j]=x at *;obtain⟨X,rfl⟩:=Int.eq_ofNat_of_zero_le V.1;have ar:X<C:=by omega
  obtain⟨cX,fX,lX,hN⟩:=qy hs ar;rw[G]at hN;have ai:=j5 (mH (l.luts.flatMap Lt.ins++l.seqs.flatMap Sq.ins) (l.outs) j) (X:Int);have ao:=Hd hN;clear hN G I hs;generalize cnt (mH (l.luts.flatMap Lt.ins++l.seqs.flatMap Sq.ins) (l.outs) j) (X:Int)=q at *;have hq:q<=10000:=by omega
  have aZ:j<=10000:=by omega
  clear ai U Q af B V;obtain⟨i0,i1⟩:=ib (by omega:j<on);obtain⟨i2,i3⟩:=ib (by omega:X<C);subst hA;go_wp2;go_roundw
  ·exact⟨j+1,by omega,by go_num,ao.1⟩
  simp[intOf];omega
 have R:j=on:=by omega
 have am:=dF (by omega:on<=j);have HD:=Hd (show aD z wr [.cel (aI (aK C ((l.luts.flatMap Lt.ins++l.seqs.flatMap Sq.ins)++(l.outs)))) (.slice (some ⟨z.heap.size,0,none⟩) C C)] from by rw[←oZ u.1.1,←R];exact hs);clear hs u g R;go_wp2;go_ret;exact⟨_,rfl,(HD.1.owned 0 rfl).more (by have:=H.1.size;omega),aA H.1 HD.1.bel⟩
theorem oh{l:aU}{a b:Int}:eB l ⟨a,b⟩↔(-1<=a/\a<(l.luts.length:Int))/\(-1<=b/\b<(l.seqs.length:Int))/\¬(a=-1/\b=-1)/\(0<=b→(l.seqs[b.toNat]?.getD Sq.zero).kind=0) /\
  (0<=a→0<=b→(l.seqs[b.toNat]?.getD Sq.zero).ins[0]?.getD 0=(l.first:Int)+a/\DT l ((l.first:Int)+a)=1) :=
 ⟨fun h=>⟨h.lut,h.ff,h.one,h.flop,h.both⟩,fun h=>⟨h.1,h.2.1,h.2.2.1,h.2.2.2.1,h.2.2.2.2⟩⟩
theorem sF(l:aU)(SA LA OA:Oh)(sn sc ln lc on oc:Nat)(a b:Int)(w:World)(h:fA w l SA LA OA sn sc ln lc on oc)(hf:bJ l)(he:eB l ⟨a,b⟩) :
  Calls Tryz.prog 142 #[ig l SA LA OA sn sc ln lc on oc,.agg #[.int .i64 a,.int .i64 b]] w fun e w'=>e=.returned (.int .i64 (dM l ⟨a,b⟩))/\Below w.heap.size w w':=by
 have g:dM l ⟨a,b⟩=if 0<=b then 1+l.inputs+b else(l.first:Int)+a:=rfl
 obtain⟨e1,e2,e3,_⟩:=oh.1 he;have z:=h.lens.1;have u:=h.lens.2.1;rw[z]at e2;rw[u]at e1;clear z u;have I:=Hd (aB (aB (Below.refl w.heap.size w) (.cells (bX l SA LA OA sn sc ln lc on oc) 41)) (.cells #[.int .i64 a,.int .i64 b] 94));have hx:=dP (.cells #[.int .i64 a,.int .i64 b] 94) (aG w (.cells (bX l SA LA OA sn sc ln lc on oc) 41));have Z:=aG (w.alloc (.cells (bX l SA LA OA sn sc ln lc on oc) 41)) (.cells #[.int .i64 a,.int .i64 b] 94);simp only[World.size_alloc]at Z;obtain⟨q,j⟩:=hd2 hx Z;clear hx Z;obtain⟨D,B,G⟩:=h.lens;have R:=hf.nseq;have V:=hf.nlut;have W:=hf.nout;have Y:=hf.inp;rw[D]at R;rw[B]at V;rw[G]at W;obtain⟨HN,HF,aq,am,ao⟩:=hd5 h hf D B G;have U:Hv ((l.first:Int)=1+l.inputs+(sn:Int)):=Hd<|by show _=_;unfold aU.first;omega
 have al:Hv ((l.count:Int)=1+l.inputs+(sn:Int)+(ln:Int)):=Hd<|by show _=_;unfold aU.count aU.first;omega
 clear h hf D B G;by_cases h0:0<=b
 ·have d0:decide (b≥0)=true:=decide_eq_true h0;rw[if_pos h0]at g;have H:=Hd g;clear g e1 e3;go_enter Tryz.func142,Tryz.ntmps142;go_upto_region 1 with fail;generalize (w.alloc (.cells (bX l SA LA OA sn sc ln lc on oc) 41)).alloc (.cells #[.int .i64 a,.int .i64 b] 94)=J at *;have x0:=aC (k:=0) q.1 rfl;have y1:=aC (k:=1) j.1 rfl;have lx:=aH q.1;have ly:=aH j.1;go_wp2;go_ret;exact⟨aQ H.1.symm,I.1⟩
 have d0:decide (b≥0)=false:=decide_eq_false h0;rw[if_neg h0,U.1]at g;have H:=Hd g;have ha:0<=a:=by omega
 clear g e2 e3 h0;go_enter Tryz.func142,Tryz.ntmps142;go_upto_region 1 with fail;generalize (w.alloc (.cells (bX l SA LA OA sn sc ln lc on oc) 41)).alloc (.cells #[.int .i64 a,.int .i64 b] 94)=J at *;obtain⟨x0,x1,x2,x3⟩:=cs4 q.1;obtain⟨y0,y1⟩:=cs2 j.1;have lx:=aH q.1;have ly:=aH j.1;go_upto_region 3 with fail;have Q:=Hd (fun(x:Sub J)=>ny l.inputs SA LA OA sn sc ln lc on oc x.v Y.1 (by omega) (by omega));have K:=dB J;have ad:=au J;refine wpB J ?_
 repeat(go_big_quiet_step ((first
  | (go_at_call 177;with_reducible exact aV (Q.1 _)))))
 refine wpQuiet_nil ?_;rintro _ ⟨⟨w5,hD⟩,rfl⟩;clear K ad;have HD:=Hd (aA I.1 hD);clear x0 x1 x2 x3 y0 y1 lx ly hD;go_wp2;go_ret;exact⟨aQ H.1.symm,HD.1⟩
theorem uU{l:aU}{g:Int}{es:List LeT}:nA l ⟨0,g,es⟩↔0<=g/\g<l.inputs:=by simp[nA]
theorem uV{l:aU}{g:Int}{es:List LeT}:nA l ⟨1,g,es⟩↔0<=g/\g<(l.outs.length:Int):=by simp[nA]
theorem mq{l:aU}{g:Int}{es:List LeT}:nA l ⟨2,g,es⟩↔0<=g/\g<(l.seqs.length:Int):=by simp[nA]
theorem qK{l:aU}{g:Int}{es:List LeT}:nA l ⟨3,g,es⟩↔∀e∈es,eB l e:=by simp[nA]
theorem jm{l:aU}{g j:Int}{es:List LeT}(h:nA l ⟨g,j,es⟩):g=0∨g=1∨g=2∨g=3:=by
 rcases h with h|h|h|h
 ·exact .inl h.1
 ·exact .inr (.inl h.1)
 ·exact .inr (.inr (.inl h.1))
 exact .inr (.inr (.inr h.1))
theorem wW(l:aU)(SA LA OA:Oh)(sn sc ln lc on oc:Nat)(a b:Int)(w:World)(h:fA w l SA LA OA sn sc ln lc on oc)(hf:bJ l)(he:eB l ⟨a,b⟩) :
  Calls Tryz.prog 214 #[ig l SA LA OA sn sc ln lc on oc,.agg #[.int .i64 a,.int .i64 b]] w fun e w'=>∃A n c,e=.returned (.slice A n c)/\Own w.heap.size w' A n c (fD l ⟨a,b⟩)/\Below w.heap.size w w':=by
 have j:fD l ⟨a,b⟩=asc ((if 0<=a then(l.luts[a.toNat]?.getD Lt.zero).ins else(l.seqs[b.toNat]?.getD Sq.zero).ins).filter fun x=>decide (x≠0)):=rfl;obtain⟨e1,e2,e3,_⟩:=oh.1 he;have B:=(qU hf he).1;change (if 0<=a then(l.luts[a.toNat]?.getD Lt.zero).ins else(l.seqs[b.toNat]?.getD Sq.zero).ins).length<=4 at B;have G:=Hd (aB (aB (Below.refl w.heap.size w) (.cells (bX l SA LA OA sn sc ln lc on oc) 41)) (.cells #[.int .i64 a,.int .i64 b] 94));have hx:=dP (.cells #[.int .i64 a,.int .i64 b] 94) (aG w (.cells (bX l SA LA OA sn sc ln lc on oc) 41));have hy:=aG (w.alloc (.cells (bX l SA LA OA sn sc ln lc on oc) 41)) (.cells #[.int .i64 a,.int .i64 b] 94);simp only[World.size_alloc]at hy;obtain⟨Z,ad⟩:=hd2 hx hy;clear hx hy;obtain⟨ai,ap,z⟩:=h.lens;have aN:=hf.nseq;have aE:=hf.nlut;have aF:=hf.nout;have aV:=hf.inp;rw[ai]at aN;rw[ap]at aE;rw[z]at aF;obtain⟨HN,HF,ar,av,aR⟩:=hd5 h hf ai ap z;have aT:Hv ((l.first:Int)=1+l.inputs+(sn:Int)):=Hd<|by show _=_;unfold aU.first;omega
 have aW:Hv ((l.count:Int)=1+l.inputs+(sn:Int)+(ln:Int)):=Hd<|by show _=_;unfold aU.count aU.first;omega
 clear h hf ai ap z;by_cases h0:0<=a
 focus
  have d0:decide (a≥0)=true:=decide_eq_true h0;rw[if_pos h0]at j B;obtain⟨X,rfl⟩:∃X:Nat,a=(X:Int):=⟨a.toNat,by omega⟩;rw[Int.toNat_natCast]at j B;have hX:X<ln:=by have:=av.1;omega
  obtain⟨bb,ob,S,m,p,rfl,I,c0,c1,r2⟩:=HN.1.lt.lut' (k:=X) (by rw[av.1];exact hX);have aI:=aJ G.1 I;rw[←G.1.cell (p:=⟨bb,ob+X*2,none⟩) I]at c0;have q:=Hd r2.ints;rw[r2.ints.1]at B;have am:=Hd j;clear c1 r2 j e1 e2 e3 he;generalize (l.luts[X]?.getD Lt.zero).ins=src at *;go_enter Tryz.func214,Tryz.ntmps214;go_upto_region 1 with fail;generalize (w.alloc (.cells (bX l SA (some ⟨bb,ob,none⟩) OA sn sc ln lc on oc) 41)).alloc (.cells #[.int .i64 (X:Int),.int .i64 b] 94)=W9 at *;have x2:=aC (k:=2) Z.1 rfl;have y0:=aC (k:=0) ad.1 rfl;have lx:=aH Z.1;have ly:=aH ad.1;go_wp2_with fail;clear x2 y0 lx ly c0
 rotate_left
 focus
  have d0:decide (a≥0)=false:=decide_eq_false h0;rw[if_neg h0]at j B;obtain⟨X,rfl⟩:∃X:Nat,b=(X:Int):=⟨b.toNat,by omega⟩;rw[Int.toNat_natCast]at j B;have hX:X<sn:=by have:=ar.1;omega
  obtain⟨bb,ob,S,m,p,rfl,I,c0,c1,c2,r2⟩:=HN.1.sq.sq' (k:=X) (by rw[ar.1];exact hX);have aI:=aJ G.1 I;rw[←G.1.cell (p:=⟨bb,ob+X*3+2,none⟩) I]at c2;have q:=Hd r2.ints;rw[r2.ints.1]at B;have am:=Hd j;clear c0 c1 r2 j e1 e2 e3 he;generalize (l.seqs[X]?.getD Sq.zero).ins=src at *;go_enter Tryz.func214,Tryz.ntmps214;go_upto_region 1 with fail;generalize (w.alloc (.cells (bX l (some ⟨bb,ob,none⟩) LA OA sn sc ln lc on oc) 41)).alloc (.cells #[.int .i64 a,.int .i64 (X:Int)] 94)=W9 at *;have x1:=aC (k:=1) Z.1 rfl;obtain⟨y0,y1⟩:=cs2 ad.1;have lx:=aH Z.1;have ly:=aH ad.1;go_wp2_with fail;clear x1 y0 y1 lx ly c2
 all_goals
  go_loopw[6,28] (fun v i wr=>∃(k:Nat) (R:Oh) (D H:Nat),k<=m/\i=.int .i64 k/\v=.slice R D H/\Own w.heap.size wr R D H (asc ((src.take k).filter fun x=>decide (x≠0)))/\Below w.heap.size w wr) (fun _ i _=>m-(intOf i).toNat)
  ·exact⟨0,_,_,_,Nat.zero_le _,rfl,rfl,Own.nil,G.1⟩
  obtain⟨k,R,D,H,hk,rfl,rfl,ho,hb⟩:=hrel;obtain⟨Y,g⟩:=hd2 ho hb;have z:=ho.len;clear ho hb;by_cases J:k<m
  ·have ah:=dT (by omega:k<m);obtain⟨bs,os,rfl,Q,K⟩:=q.1.2 (by omega);have ag:=(g.1.cell (p:=⟨bs,os+k,none⟩) Q).trans (K k J);have af:=aJ g.1 Q;have V:k<src.length:=by rw[q.1.1];exact J
   have hg:=nR (fun x=>decide (x≠0)) (src.take k) (src[k]?.getD 0);rw[←bF V]at hg;have HG:=Hd hg;have al:=iK ((src.take k).filter fun x=>decide (x≠0));have U:=List.length_filter_le (fun x=>decide (x≠0)) (src.take k);rw[List.length_take]at U;have aO:D<=4:=by omega
   clear hg K al U z V;generalize asc ((src.take k).filter fun x=>decide (x≠0))=ys at *;generalize src[k]?.getD 0=x at *;obtain⟨i0,i1⟩:=ib (by omega:k<m);by_cases hx:x=0
   ·have u:Hv (asc ((src.take (k+1)).filter fun x=>decide (x≠0))=ys):=Hd<|by show _=_;rw[HG.1,hx];rfl
    have dx:(x != 0)=false:=by simp[hx]
    clear HG hx;go_wp2;go_roundw
    ·exact⟨k+1,_,_,_,by omega,by go_num,rfl,by rw[u.1];exact Y.1,g.1⟩
    simp[intOf];omega
   have u:Hv (asc ((src.take (k+1)).filter fun x=>decide (x≠0))=ins ys x):=Hd<|by show _=_;rw[HG.1];simp[hx]
   have dx:(x != 0)=true:=by simp[hx]
   clear HG hx;go_wp2_with fail;refine(jD w.heap.size R D H ys x _ Y.1 g.1.size (by omega)).mono ?_;rintro _ w1 ⟨A2,n2,c2,rfl,o2,b2⟩;have ak:=Hd o2;have ao:=Hd (aA g.1 b2);clear o2 b2 ag af;go_wp2;go_roundw
   ·exact⟨k+1,_,_,_,by omega,by go_num,rfl,by rw[u.1];exact ak.1,ao.1⟩
   simp[intOf];omega
  have W:k=m:=by omega
  have ah:=dF (by omega:m<=k)
  have HD:Hv (Own w.heap.size wr R D H (asc (src.filter fun x=>decide (x≠0)))):=Hd<|by
   have h:=Y.1;rwa[W,List.take_of_length_le (by rw[q.1.1];exact Nat.le_refl _)]at h
  clear Y W;go_wp2;go_ret;exact⟨_,_,_,rfl,by rw[am.1];exact HD.1,g.1⟩
theorem Ea(l:aU)(SA LA OA:Oh)(sn sc ln lc on oc:Nat)(G g:Int)(es:List LeT)(J:Oh)(u I:Nat)(w:World)(h:fA w l SA LA OA sn sc ln lc on oc)(hf:bJ l)(hE:RdC w w.heap.size (ay es) (.slice J u I))(hK:nA l ⟨G,g,es⟩)(bc:u<=1048576) :
  Calls Tryz.prog 126 #[ig l SA LA OA sn sc ln lc on oc,.agg #[.int .i64 G,.int .i64 g,.slice J u I]] w fun e w'=>∃A n c,e=.returned (.slice A n c)/\Own w.heap.size w' A n c (j4 l ⟨G,g,es⟩)/\Below w.heap.size w w':=by
 have aq:=hE.esN;obtain⟨HE,ae⟩:=hd2 hE aq;clear hE;have q:=Hd (aB (aB (Below.refl w.heap.size w) (.cells (bX l SA LA OA sn sc ln lc on oc) 41)) (.cells #[.int .i64 G,.int .i64 g,.slice J u I] 89));have hx:=dP (.cells #[.int .i64 G,.int .i64 g,.slice J u I] 89) (aG w (.cells (bX l SA LA OA sn sc ln lc on oc) 41));have hy:=aG (w.alloc (.cells (bX l SA LA OA sn sc ln lc on oc) 41)) (.cells #[.int .i64 G,.int .i64 g,.slice J u I] 89);simp only[World.size_alloc]at hy;obtain⟨j,B⟩:=hd2 hx hy;clear hx hy;obtain⟨U,W,V⟩:=h.lens;have aP:=hf.nseq;have ax:=hf.nlut;have az:=hf.nout;have a0:=hf.inp;rw[U]at aP;rw[W]at ax;rw[V]at az;obtain⟨HN,HF,av,a4,aX⟩:=hd5 h hf U W V;have aZ:Hv ((l.first:Int)=1+l.inputs+(sn:Int)):=Hd<|by show _=_;unfold aU.first;omega
 have a2:Hv ((l.count:Int)=1+l.inputs+(sn:Int)+(ln:Int)):=Hd<|by show _=_;unfold aU.count aU.first;omega
 clear h hf U W V;by_cases k0:G=0
 ·subst k0;have R:Hv (j4 l ⟨0,g,es⟩=[1+g]):=Hd<|rfl
  have aK:0<=g/\g<l.inputs:=uU.1 hK;go_enter Tryz.func126,Tryz.ntmps126;go_upto_region 1 with fail;generalize (w.alloc (.cells (bX l SA LA OA sn sc ln lc on oc) 41)).alloc (.cells #[.int .i64 0,.int .i64 g,.slice J u I] 89)=K at *;have x0:=aC (k:=0) j.1 rfl;obtain⟨y0,y1⟩:=cs2 B.1;have Z:=aH j.1;have ly:=aH B.1;go_wp2;go_ret;refine⟨_,_,_,rfl,?_,aA q.1 (aB (Below.refl _ _) _)⟩;rw[R.1];exact Own.made (cur:=#[.int .i64 (1+g)]) (aG K _) q.1.size (by unfold maxLen;omega) rfl rfl
 by_cases k1:G=1
 ·subst k1;have R:Hv (j4 l ⟨1,g,es⟩=[]):=Hd<|rfl
  go_enter Tryz.func126,Tryz.ntmps126;go_upto_region 1 with fail;generalize (w.alloc (.cells (bX l SA LA OA sn sc ln lc on oc) 41)).alloc (.cells #[.int .i64 1,.int .i64 g,.slice J u I] 89)=K at *;have x0:=aC (k:=0) j.1 rfl;obtain⟨y0,y1⟩:=cs2 B.1;have Z:=aH j.1;have ly:=aH B.1;go_wp2;go_ret;exact⟨_,_,_,rfl,by rw[R.1];exact Own.nil,q.1⟩
 by_cases k2:G=2
 ·subst k2;have R:Hv (j4 l ⟨2,g,es⟩=[1+l.inputs+g]):=Hd<|rfl
  have aK:0<=g/\g<(sn:Int):=by rw[←av.1];exact mq.1 hK
  go_enter Tryz.func126,Tryz.ntmps126;go_upto_region 1 with fail;generalize (w.alloc (.cells (bX l SA LA OA sn sc ln lc on oc) 41)).alloc (.cells #[.int .i64 2,.int .i64 g,.slice J u I] 89)=K at *;have x0:=aC (k:=0) j.1 rfl;obtain⟨y0,y1⟩:=cs2 B.1;have Z:=aH j.1;have ly:=aH B.1;go_wp2;go_ret;refine⟨_,_,_,rfl,?_,aA q.1 (aB (Below.refl _ _) _)⟩;rw[R.1];exact Own.made (cur:=#[.int .i64 (1+l.inputs+g)]) (aG K _) q.1.size (by unfold maxLen;omega) rfl rfl
 have k3:G=3:=by have:=jm hK;omega
 subst k3;clear k0 k1 k2;have R:Hv (j4 l ⟨3,g,es⟩=es.map (dM l)):=Hd<|rfl
 have aN:Hv (∀e∈es,eB l e):=Hd<|qK.1 hK
 clear hK;have aL:=j;go_enter Tryz.func126,Tryz.ntmps126;go_upto_region 1 with fail;generalize (w.alloc (.cells (bX l SA LA OA sn sc ln lc on oc) 41)).alloc (.cells #[.int .i64 3,.int .i64 g,.slice J u I] 89)=K at *;have x0:=aC (k:=0) j.1 rfl;obtain⟨y0,y1,y2⟩:=cs3 B.1;have Z:=aH j.1;have ly:=aH B.1;go_wp2_with fail;clear x0 y0 y1 y2 Z ly
 go_loopw[5,30] (fun v i wr=>∃(k:Nat) (A':Oh) (c':Nat),k<=u/\i=.int .i64 k/\v=.slice A' k c'/\aD K wr [.cel (aI ((es.take k).map (dM l))) (.slice A' k c')]) (fun _ i _=>u-(intOf i).toNat)
 ·exact⟨0,none,0,Nat.zero_le _,rfl,rfl,(aD.refl K).pushNil 3 1⟩
 obtain⟨k,A',c',hk,rfl,rfl,hs⟩:=hrel;have HS:=Hd hs;clear hs;by_cases aE:k<u
 ·have au:=dT (by omega:k<u);have D:k<es.length:=by rw[ae.1];exact aE
  obtain⟨be,oe,rfl,Q,c0,c1⟩:=HE.1.es (k:=k) D;have H:=aA q.1 HS.1.bel;have a3:=aJ H Q;rw[←H.cell (p:=⟨be,oe+k*2,none⟩) Q]at c0;rw[←H.cell (p:=⟨be,oe+k*2+1,none⟩) Q]at c1;clear H;have af:=Hd (aN.1 _ (List.getElem_mem D));have aM:Hv ((es.take (k+1)).map (dM l)=(es.take k).map (dM l)++[dM l ⟨(es[k]?.getD LeT.zero).lut,(es[k]?.getD LeT.zero).ff⟩]):=Hd<|by show _=_;rw[bF (z:=LeT.zero) D,List.map_append];rfl
  rw[show es[k]=es[k]?.getD LeT.zero by rw[List.getElem?_eq_getElem D];rfl]at af;clear D;generalize es[k]?.getD LeT.zero=e at *;have hx:=aF (aB (Below.refl wr.heap.size wr) (.cells #[.int .i64 e.lut,.int .i64 e.ff] 94)) (aF HS.1.bel aL.1);obtain⟨x0,x1,x2,x3,Z⟩:=bA hx;have hq:=aG wr (.cells #[.int .i64 e.lut,.int .i64 e.ff] 94);obtain⟨q0,q1,lq⟩:=iC hq;obtain⟨i0,i1⟩:=ib (by omega:k<u);have aj:=Hd (HS.1.alloc (.cells #[.int .i64 e.lut,.int .i64 e.ff] 94));clear hx hq;go_wp2_with fail;refine(sF l SA LA OA sn sc ln lc on oc e.lut e.ff _ (HN.1.below (aA q.1 aj.1.bel)) HF.1 af.1).mono ?_;rintro _ w1 ⟨rfl,b1⟩;have ar:=Hd (aj.1.below b1);clear b1 x0 x1 x2 x3 Z q0 q1 lq c0 c1;generalize dM l ⟨e.lut,e.ff⟩=Y at *
  go_wp2_with (at_builtin;refine bP rfl _ _ rfl _ (ar.1.alloc _) 0 A' k c' ((es.take k).map (dM l)) Y _ (0,0) rfl rfl rfl (aG _ _) (by omega) ?_;intro g9 cap w9 S9 aw;have ap:=Hd S9;clear S9 aw)
  go_roundw
  ·exact⟨k+1,_,_,by omega,by go_num,rfl,by rw[aM.1];exact ap.1⟩
  simp[intOf];omega
 have al:k=u:=by omega
 have au:=dF (by omega:u<=k)
 have HD:Hv (aD K wr [.cel (aI (es.map (dM l))) (.slice A' u c')]):=Hd<|by
  have h:=HS.1;rwa[al,List.take_of_length_le (by rw[ae.1];exact Nat.le_refl _)]at h
 subst al;clear HS;go_wp2;go_ret;exact⟨_,_,_,rfl,by rw[R.1];exact(HD.1.owned 0 rfl).more q.1.size,aA q.1 HD.1.bel⟩
theorem sG(l:aU)(SA LA OA:Oh)(sn sc ln lc on oc:Nat)(W G:Int)(es:List LeT)(EA:Oh)(g ec:Nat)(w:World)(h:fA w l SA LA OA sn sc ln lc on oc)(hf:bJ l)(hE:RdC w w.heap.size (ay es) (.slice EA g ec))(hK:nA l ⟨W,G,es⟩)(cn:g<=100000) :
  Calls Tryz.prog 125 #[ig l SA LA OA sn sc ln lc on oc,.agg #[.int .i64 W,.int .i64 G,.slice EA g ec]] w fun e w'=>∃A n c,e=.returned (.slice A n c)/\Own w.heap.size w' A n c (iU l ⟨W,G,es⟩)/\Below w.heap.size w w':=by
 have bq:=hE.esN;obtain⟨HE,ad⟩:=hd2 hE bq;clear hE;have q:=Hd (aB (aB (Below.refl w.heap.size w) (.cells (bX l SA LA OA sn sc ln lc on oc) 41)) (.cells #[.int .i64 W,.int .i64 G,.slice EA g ec] 89));have hx:=dP (.cells #[.int .i64 W,.int .i64 G,.slice EA g ec] 89) (aG w (.cells (bX l SA LA OA sn sc ln lc on oc) 41));have hy:=aG (w.alloc (.cells (bX l SA LA OA sn sc ln lc on oc) 41)) (.cells #[.int .i64 W,.int .i64 G,.slice EA g ec] 89);simp only[World.size_alloc]at hy;obtain⟨B,D⟩:=hd2 hx hy;clear hx hy;obtain⟨aM,aO,R⟩:=h.lens;have bT:=hf.nseq;have bx:=hf.nlut;have bz:=hf.nout;have ce:=hf.inp;rw[aM]at bT;rw[aO]at bx;rw[R]at bz;obtain⟨HN,HF,au,cj,bm⟩:=hd5 h hf aM aO R;have cd:Hv ((l.first:Int)=1+l.inputs+(sn:Int)):=Hd<|by show _=_;unfold aU.first;omega
 have cf:Hv ((l.count:Int)=1+l.inputs+(sn:Int)+(ln:Int)):=Hd<|by show _=_;unfold aU.count aU.first;omega
 clear h hf aM aO R;by_cases k0:W=0
 ·subst k0;have HR:Hv (iU l ⟨0,G,es⟩=[]):=Hd<|rfl
  go_enter Tryz.func125,Tryz.ntmps125;go_upto_region 1 with fail;generalize (w.alloc (.cells (bX l SA LA OA sn sc ln lc on oc) 41)).alloc (.cells #[.int .i64 0,.int .i64 G,.slice EA g ec] 89)=W9 at *;have x0:=aC (k:=0) B.1 rfl;obtain⟨y0,y1⟩:=cs2 D.1;have lx:=aH B.1;have ly:=aH D.1;go_wp2;go_ret;exact⟨_,_,_,rfl,by rw[HR.1];exact Own.nil,q.1⟩
 by_cases k1:W=1
 ·subst k1;have HR:Hv (iU l ⟨1,G,es⟩=[l.outs[G.toNat]?.getD 0]):=Hd<|rfl
  have aw:=uV.1 hK;rw[bm.1]at aw;obtain⟨X,rfl⟩:∃X:Nat,G=(X:Int):=⟨G.toNat,by omega⟩;rw[Int.toNat_natCast]at HR;have hX:X<on:=by omega
  obtain⟨bo,oo,rfl,a3,aT⟩:=HN.1.ou.ints.2 (by omega);have co:=aT X hX;have ch:=aJ q.1 a3;rw[←q.1.cell (p:=⟨bo,oo+X,none⟩) a3]at co;clear aT hK;generalize l.outs[X]?.getD 0=y at *;go_enter Tryz.func125,Tryz.ntmps125;go_upto_region 1 with fail;generalize (w.alloc (.cells (bX l SA LA (some ⟨bo,oo,none⟩) sn sc ln lc on oc) 41)).alloc (.cells #[.int .i64 1,.int .i64 (X:Int),.slice EA g ec] 89)=W9 at *;have x3:=aC (k:=3) B.1 rfl;obtain⟨y0,y1⟩:=cs2 D.1;have lx:=aH B.1;have ly:=aH D.1;go_wp2;go_ret;refine⟨_,_,_,rfl,?_,aA q.1 (aB (Below.refl _ _) _)⟩;rw[HR.1];exact Own.made (cur:=#[.int .i64 (y)]) (aG W9 _) q.1.size (by unfold maxLen;omega) rfl rfl
 by_cases k2:W=2
 ·subst k2;have HR:Hv (iU l ⟨2,G,es⟩=(l.seqs[G.toNat]?.getD Sq.zero).ins):=Hd<|rfl
  have aw:=mq.1 hK;rw[au.1]at aw;obtain⟨X,rfl⟩:∃X:Nat,G=(X:Int):=⟨G.toNat,by omega⟩;rw[Int.toNat_natCast]at HR;have hX:X<sn:=by omega
  obtain⟨bb,ob,S,m,p,rfl,aS,c0,c1,c2,r2⟩:=HN.1.sq.sq' (k:=X) (by rw[au.1];exact hX);have ci:=aJ q.1 aS;rw[←q.1.cell (p:=⟨bb,ob+X*3+2,none⟩) aS]at c2
  have bR:m<=4:=by
   have h1:=(HF.1.seqs X (by rw[au.1];exact hX)).1;have h2:=r2.ints.1
   rcases h1 with h|h <;> omega
  have bC:=Hd r2.ints;clear c0 c1 r2 hK;generalize (l.seqs[X]?.getD Sq.zero).ins=src at *;go_enter Tryz.func125,Tryz.ntmps125;go_upto_region 1 with fail;generalize (w.alloc (.cells (bX l (some ⟨bb,ob,none⟩) LA OA sn sc ln lc on oc) 41)).alloc (.cells #[.int .i64 2,.int .i64 (X:Int),.slice EA g ec] 89)=W9 at *;have x1:=aC (k:=1) B.1 rfl;obtain⟨y0,y1⟩:=cs2 D.1;have lx:=aH B.1;have ly:=aH D.1;go_wp2_with fail;refine(gV S m p src _ (bC.1.below q.1) (by omega)).mono ?_;rintro _ w1 ⟨A1,c1,rfl,o1,b1⟩;have aN:=Hd (o1.more q.1.size);have U:=Hd (aA q.1 b1);clear o1 b1;go_wp2;go_ret;exact⟨_,_,_,rfl,by rw[HR.1];exact aN.1,U.1⟩
 have k3:W=3:=by have:=jm hK;omega
 subst k3;clear k0 k1 k2;have HR:Hv (iU l ⟨3,G,es⟩=qA l es):=Hd<|rfl
 have aK:Hv (∀e∈es,eB l e):=Hd<|qK.1 hK
 clear hK;have bE:=B;go_enter Tryz.func125,Tryz.ntmps125;go_upto_region 1 with fail;generalize (w.alloc (.cells (bX l SA LA OA sn sc ln lc on oc) 41)).alloc (.cells #[.int .i64 3,.int .i64 G,.slice EA g ec] 89)=W9 at *;have x0:=aC (k:=0) B.1 rfl;obtain⟨y0,y1,y2⟩:=cs3 D.1;have lx:=aH B.1;have ly:=aH D.1;go_wp2_with fail;clear x0 y0 y1 y2 lx ly
 go_loopw[5,39] (fun v i wr=>∃(k:Nat) (K:Oh) (H:Nat),k<=g/\i=.int .i64 k/\v=.slice K k H/\aD W9 wr [.cel (aI ((es.take k).map (dM l))) (.slice K k H)]) (fun _ i _=>g-(intOf i).toNat)
 ·exact⟨0,none,0,Nat.zero_le _,rfl,rfl,(aD.refl W9).pushNil 3 1⟩
 obtain⟨k,K,H,hk,rfl,rfl,hs⟩:=hrel;have HS:=Hd hs;clear hs;by_cases av:k<g
 ·have ar:=dT (by omega:k<g);have u:k<es.length:=by rw[ad.1];exact av
  obtain⟨be,oe,rfl,I,c0,c1⟩:=HE.1.es (k:=k) u;have Z:=aA q.1 HS.1.bel;have bD:=aJ Z I;rw[←Z.cell (p:=⟨be,oe+k*2,none⟩) I]at c0;rw[←Z.cell (p:=⟨be,oe+k*2+1,none⟩) I]at c1;clear Z;have Q:=Hd (aK.1 _ (List.getElem_mem u));have aE:Hv ((es.take (k+1)).map (dM l)=(es.take k).map (dM l)++[dM l ⟨(es[k]?.getD LeT.zero).lut,(es[k]?.getD LeT.zero).ff⟩]):=Hd<|by show _=_;rw[bF (z:=LeT.zero) u,List.map_append];rfl
  rw[show es[k]=es[k]?.getD LeT.zero by rw[List.getElem?_eq_getElem u];rfl]at Q;clear u;generalize es[k]?.getD LeT.zero=e at *;have hx:=aF (aB (Below.refl wr.heap.size wr) (.cells #[.int .i64 e.lut,.int .i64 e.ff] 94)) (aF HS.1.bel bE.1);obtain⟨x0,x1,x2,x3,lx⟩:=bA hx;have hq:=aG wr (.cells #[.int .i64 e.lut,.int .i64 e.ff] 94);obtain⟨q0,q1,lq⟩:=iC hq;obtain⟨i0,i1⟩:=ib (by omega:k<g);have aY:=Hd (HS.1.alloc (.cells #[.int .i64 e.lut,.int .i64 e.ff] 94));clear hx hq;go_wp2_with fail;refine(sF l SA LA OA sn sc ln lc on oc e.lut e.ff _ (HN.1.below (aA q.1 aY.1.bel)) HF.1 Q.1).mono ?_;rintro _ w1 ⟨rfl,b1⟩;have bu:=Hd (aY.1.below b1);clear b1 x0 x1 x2 x3 lx q0 q1 lq c0 c1;generalize dM l ⟨e.lut,e.ff⟩=Y at *
  go_wp2_with (at_builtin;refine bP rfl _ _ rfl _ (bu.1.alloc _) 0 K k H ((es.take k).map (dM l)) Y _ (0,0) rfl rfl rfl (aG _ _) (by omega) ?_;intro g9 cap w9 S9 bw;have bk:=Hd S9;clear S9 bw)
  go_roundw
  ·exact⟨k+1,_,_,by omega,by go_num,rfl,by rw[aE.1];exact bk.1⟩
  simp[intOf];omega
 have V:k=g:=by omega
 have ar:=dF (by omega:g<=k)
 have HD:Hv (aD W9 wr [.cel (aI (es.map (dM l))) (.slice K g H)]):=Hd<|by
  have h:=HS.1;rwa[V,List.take_of_length_le (by rw[ad.1];exact Nat.le_refl _)]at h
 subst V;clear HS;have bN:=Hd HD.1.bel;have aL:=Hd (aA q.1 HD.1.bel);have bI:=Hd (HD.1.ints 0 rfl);obtain⟨-,-,y2,ly⟩:=j6 (aF HD.1.bel D.1);clear HD;obtain⟨wo,rfl⟩:∃y,y=wr:=⟨wr,rfl⟩;obtain⟨OB,rfl⟩:∃x,x=K:=⟨K,rfl⟩;obtain⟨br,rfl⟩:∃x,x=H:=⟨H,rfl⟩;obtain⟨g,rfl⟩:∃x,x=k:=⟨k,rfl⟩;go_wp2_with fail;clear y2 ly
 go_loopw[6,53] (fun v i wr=>∃(k:Nat) (K:Oh) (n' H:Nat),k<=g/\i=.int .i64 k/\v=.slice K n' H/\Own w.heap.size wr K n' H (asc (((es.take k).flatMap (fD l)).filter fun x=>decide (x∉es.map (dM l))))/\Below wo.heap.size wo wr) (fun _ i _=>g-(intOf i).toNat)
 ·exact⟨0,_,_,_,Nat.zero_le _,rfl,rfl,Own.nil,Below.refl _ _⟩
 obtain⟨k,K,n',H,hk,rfl,rfl,ho,hb⟩:=hrel;obtain⟨HO,a4⟩:=hd2 ho hb;have hB:=Hd (aA aL.1 hb);clear ho hb;by_cases av:k<g
 ·have ar:=dT (by omega:k<g);have u:k<es.length:=by rw[ad.1];exact av
  obtain⟨be,oe,rfl,I,c0,c1⟩:=HE.1.es (k:=k) u;have bD:=aJ hB.1 I;rw[←hB.1.cell (p:=⟨be,oe+k*2,none⟩) I]at c0;rw[←hB.1.cell (p:=⟨be,oe+k*2+1,none⟩) I]at c1;have Q:=Hd (aK.1 _ (List.getElem_mem u));have aE:=Hd (show(es.take (k+1)).flatMap (fD l)=(es.take k).flatMap (fD l)++fD l ⟨(es[k]?.getD LeT.zero).lut,(es[k]?.getD LeT.zero).ff⟩ from by rw[bF (z:=LeT.zero) u,List.flatMap_append,List.flatMap_singleton])
  have bB:Hv (((es.take k).flatMap (fD l)).length<=4*k):=Hd<|by
   show _<=_;have h:=mi (f:=fD l) (m:=4) (xs:=es.take k) fun e he=>(oI HF.1 (aK.1 e (List.mem_of_mem_take he))).1;rw[List.length_take]at h;have h2:min k es.length*4<=k*4:=Nat.mul_le_mul_right 4 (Nat.min_le_left _ _);omega
  rw[show es[k]=es[k]?.getD LeT.zero by rw[List.getElem?_eq_getElem u];rfl]at Q;have bn:=Hd (oI HF.1 Q.1).1;clear u;generalize es[k]?.getD LeT.zero=e at *;have hx:=aF (aB (Below.refl wr.heap.size wr) (.cells #[.int .i64 e.lut,.int .i64 e.ff] 94)) (aF (aA bN.1 a4.1) B.1);obtain⟨x0,x1,x2,x3,lx⟩:=bA hx;have hq:=aG wr (.cells #[.int .i64 e.lut,.int .i64 e.ff] 94);obtain⟨q0,q1,lq⟩:=iC hq;obtain⟨i0,i1⟩:=ib (by omega:k<g);have aR:=Hd (aB a4.1 (.cells #[.int .i64 e.lut,.int .i64 e.ff] 94));have bj:=Hd (HO.1.below (aB (Below.refl _ _) (.cells #[.int .i64 e.lut,.int .i64 e.ff] 94)));clear hx hq;go_wp2_with fail;refine(wW l SA LA OA sn sc ln lc on oc e.lut e.ff _ (HN.1.below (aA aL.1 aR.1)) HF.1 Q.1).mono ?_;rintro _ w1 ⟨IA,m,ic,rfl,oi,b1⟩;have ag:=Hd oi.ints;have U:=Hd (aA aR.1 b1);have aN:=Hd (bj.1.below b1);clear b1 oi x0 x1 x2 x3 lx q0 q1 lq c0 c1;have bR:m<=4:=by rw[←ag.1.1];exact bn.1
  generalize fD l ⟨e.lut,e.ff⟩=src at *;generalize (es.take k).flatMap (fD l)=BS at *;go_wp2
  go_loopw[6,61] (fun v i wr=>∃(j:Nat) (K:Oh) (n' H:Nat),j<=m/\i=.int .i64 j/\v=.slice K n' H/\Own w.heap.size wr K n' H (asc ((BS++src.take j).filter fun x=>decide (x∉es.map (dM l))))/\Below w1.heap.size w1 wr) (fun _ i _=>m-(intOf i).toNat)
  ·exact⟨0,_,_,_,Nat.zero_le _,rfl,rfl,by rw[List.take_zero,List.append_nil];exact aN.1,Below.refl _ _⟩
  obtain⟨j,A3,n3,c3,hj,rfl,rfl,ho,hb⟩:=hrel;obtain⟨af,J⟩:=hd2 ho hb;have R:=ho.len;clear ho hb;by_cases al:j<m
  ·have bH:=dT (by omega:j<m);obtain⟨bs,os,rfl,a1,a0⟩:=ag.1.2 (by omega);have bt:=(J.1.cell (p:=⟨bs,os+j,none⟩) a1).trans (a0 j al);have bl:=aJ J.1 a1;have aX:j<src.length:=by rw[ag.1.1];exact al
   have hg:=nR (fun x=>decide (x∉es.map (dM l))) (BS++src.take j) (src[j]?.getD 0);rw[List.append_assoc,←bF aX]at hg;have HG:=Hd hg;have bS:=iK ((BS++src.take j).filter fun x=>decide (x∉es.map (dM l)));have a2:=List.length_filter_le (fun x=>decide (x∉es.map (dM l))) (BS++src.take j);rw[List.length_append,List.length_take]at a2;have bp:=bB.1;have cl:n3<=1048576:=by omega
   clear hg a0 bS a2 R aX bp;generalize asc ((BS++src.take j).filter fun x=>decide (x∉es.map (dM l)))=ys at *;generalize src[j]?.getD 0=x at *;obtain⟨i2,i3⟩:=ib (by omega:j<m);go_wp2_with fail;refine(mZ OB g br (es.map (dM l)) x _ (bI.1.below (aA U.1 J.1)) (by omega)).mono ?_;rintro _ w2 ⟨rfl,rfl⟩;by_cases hx:x∈es.map (dM l)
   ·have ax:Hv (asc ((BS++src.take (j+1)).filter fun x=>decide (x∉es.map (dM l)))=ys):=Hd<|by show _=_;rw[HG.1,if_neg (by simp only[decide_eq_true_eq];exact fun h=>h hx)]
    rw[decide_eq_true hx];clear HG hx;go_wp2;go_roundw
    ·exact⟨j+1,_,_,_,by omega,by go_num,rfl,by rw[ax.1];exact af.1,J.1⟩
    simp[intOf];omega
   have ax:Hv (asc ((BS++src.take (j+1)).filter fun x=>decide (x∉es.map (dM l)))=ins ys x):=Hd<|by show _=_;rw[HG.1,if_pos (decide_eq_true hx)]
   rw[decide_eq_false hx];clear HG hx;go_wp2_with fail;refine(jD w.heap.size A3 n3 c3 ys x _ af.1 (by have h1:=U.1.size;have h2:=J.1.size;have h3:=aL.1.size;omega) (by omega)).mono ?_;rintro _ w4 ⟨A2,n2,c2,rfl,o2,b2⟩;have bO:=Hd o2;have bV:=Hd (aA J.1 b2);clear o2 b2 bt bl;go_wp2;go_roundw
   ·exact⟨j+1,_,_,_,by omega,by go_num,rfl,by rw[ax.1];exact bO.1,bV.1⟩
   simp[intOf];omega
  have aV:j=m:=by omega
  have bH:=dF (by omega:m<=j)
  have HD:Hv (Own w.heap.size wr A3 n3 c3 (asc (((es.take (k+1)).flatMap (fD l)).filter fun x=>decide (x∉es.map (dM l))))):=Hd<|by
   have h:=af.1;rw[aE.1];rwa[aV,List.take_of_length_le (by rw[ag.1.1];exact Nat.le_refl _)]at h
  clear af aV;go_wp2;go_roundw
  ·exact⟨k+1,_,_,_,by omega,by go_num,rfl,HD.1,aA U.1 J.1⟩
  simp[intOf];omega
 have V:k=g:=by omega
 have ar:=dF (by omega:g<=k)
 have HD:Hv (Own w.heap.size wr K n' H (qA l es)):=Hd<|by
  have h:=HO.1;rwa[V,List.take_of_length_le (by rw[ad.1];exact Nat.le_refl _)]at h
 clear HO V;go_wp2;go_ret;exact⟨_,_,_,rfl,by rw[HR.1];exact HD.1,hB.1⟩
end Go.Proofs.YtofihjoanjkdmaaGreat
