/- The kinds of tiles and the states of a device: the program's answers and the reference's are one. -/
import Derived.Test.YtofihjoanjkdmaaGreatPads
namespace Go.Proofs.YtofihjoanjkdmaaGreat
set_option maxHeartbeats 1000000
set_option maxRecDepth 100000
open Go.RowKit
def bH (d:Dev) (t:Int):Int :=
 if t % d.W=0∨t % d.W=d.W - 1∨t / d.W=0∨t / d.W=d.H - 1 then 0 else if t % d.W=d.R then 2 else 1
theorem lN (d:Dev) (t:Int):bH d t=0∨bH d t=1∨bH d t=2:=by
 unfold bH
 split
 ·simp
 split <;> simp
def j3 (d:Dev) (t:Int):Int:=if dZ d=true/\0<=t/\t<d.W * d.H then bH d t else -1
theorem mP (d:Dev) (t:Int) (w:World) (g:dZ d=true) (ht:0<=t) (z:t<=1099511627776) :
  Calls Tryz.prog 217 #[.agg (dv d),.int .i64 t] w fun e w'=>e = .returned (.int .i64 (bH d t))/\Below w.heap.size w w':=by
 obtain ⟨D,H,B,j,_⟩:=ay g
 have q:¬d.W=0:=by omega
 have e1:t.tmod d.W=t % d.W:=Int.tmod_eq_emod_of_nonneg ht
 have e2:IntKind.i64.wrap (t.tdiv d.W)=t / d.W:=IntWalk.i64_quo _ _ ⟨ht,by omega,by omega⟩
 have G:0<=t % d.W:=Int.emod_nonneg _ q
 have u:t % d.W<d.W:=Int.emod_lt_of_pos _ (by omega)
 clear g
 go_enter Tryz.func217,Tryz.ntmps217
 go_wp2_with fail
 go_quiet (fail)
 clear e1 e2
 go_wp2_with fail
 all_goals (go_ret;exact ⟨aL (by (try simp only [beq_iff_eq,beq_eq_false_iff_ne,ne_eq] at *);first|(rw [bH,if_pos (by omega)])|(rw [bH,if_neg (by omega),if_pos (by omega)])|(rw [bH,if_neg (by omega),if_neg (by omega)])),bB (aD (Below.refl _ _) _) _⟩)
theorem qo (d:Dev) (t:Int) (w:World) (J:t<=1099511627776) :
  Calls Tryz.prog 113 #[.agg (dv d),.int .i64 t] w fun e w'=>e = .returned (.int .i64 (j3 d t))/\Below w.heap.size w w':=by
 go_enter Tryz.func113,Tryz.ntmps113
 go_wp2_with fail
 refine (iV d _).mono ?_
 rintro e w1 ⟨rfl,u⟩
 obtain ⟨hcc,R⟩:=bG u
 have j:=Hd (aA (aD (Below.refl _ _) _) u)
 clear u
 cases g:dZ d with
 | false =>
  have q:=Hd g
  clear g
  go_wp2_with fail
  go_ret
  exact ⟨aL (by rw [j3,if_neg (by rw [q.out];simp)]),j.out⟩
 | true =>
  obtain ⟨Y,Q,D⟩:=pM g
  obtain ⟨U,K,Z,B,_⟩:=ay g
  obtain ⟨q,z⟩:=hd2 g Y
  clear g
  by_cases h0:t<0
  ·go_wp2_with fail
   go_ret
   exact ⟨aL (by rw [j3,if_neg (by omega)]),j.out⟩
  by_cases h1:t≥(qy d:Int)
  ·go_wp2_with fail
   go_ret
   exact ⟨aL (by rw [j3,if_neg (by rw [z.out];omega)]),j.out⟩
  have H:¬d.W=0:=by omega
  have V:0<=t % d.W:=Int.emod_nonneg _ H
  have I:t % d.W<d.W:=Int.emod_lt_of_pos _ (by omega)
  have hk:j3 d t=bH d t:=by rw [j3,if_pos ⟨q.out,by omega,by rw [z.out];omega⟩]
  have G:=Hd hk
  clear hk
  go_wp2_with fail
  all_goals (go_ret;exact ⟨aL (by rw [G.out];(try simp only [beq_iff_eq,beq_eq_false_iff_ne,ne_eq] at *);first|(rw [bH,if_pos (by omega)])|(rw [bH,if_neg (by omega),if_pos (by omega)])|(rw [bH,if_neg (by omega),if_neg (by omega)])),j.out⟩)
theorem zW {d:Dev} {t:Int} (g:dZ d=true) (h0:0<=t) (h1:t<d.W * d.H):j3 d t=bH d t:=by rw [j3,if_pos ⟨g,h0,h1⟩]
def aQ (d:Dev):Int:=7+4 * d.T
def jA (k:Int):Int:=if k=0 then 1 else if k=1 then 5 else if k=2 then 4 else 0
def eQ (k:Int):Int:=if k=0 then 1 else if k=1 then 2 else if k=2 then 1 else 0
def stX (d:Dev) (t r s:Int):Int:=if r=0 then t % d.W+s else if r=2 then t % d.W - s else t % d.W
def stY (d:Dev) (t r s:Int):Int:=if r=1 then t / d.W+s else if r=0 then t / d.W else if r=2 then t / d.W else t / d.W - s
def nZ (d:Dev) (t r s:Int):Bool:=inR (stX d t r s) 0 (d.W - 1) && inR (stY d t r s) 0 (d.H - 1)
def av (d:Dev) (t r s:Int):Int:=if nZ d t r s=true then stY d t r s * d.W+stX d t r s else -1
def bR (k:Int):Int:=1+k % 2
def iJ (d:Dev):Int:=d.W * d.H * aQ d
def az (d:Dev) (t:Int):Bool:=dZ d && (decide (0<=t) && decide (t<d.W * d.H))
theorem aV {d:Dev} {t:Int}:az d t=true↔dZ d=true/\0<=t/\t<d.W * d.H:=by simp [az]
def ed (d:Dev) (t p:Int):Int:=if az d t=true/\0<=p/\p<eQ (bH d t) then t * aQ d+5+p else -1
def eD (d:Dev) (t r k:Int):Int:=if az d t=true/\(0<=r/\r<=3)/\(0<=k/\k<d.T)/\0<=av d t r (bR k) then t * aQ d+7+r * d.T+k else -1
def sN (d:Dev) (t k:Int):Bool :=
 if k<5 then decide (k<jA (bH d t)) else if k<7 then decide (k - 5<eQ (bH d t)) else decide (0<=av d t ((k - 7) / d.T) (bR ((k - 7) % d.T)))
def fD (d:Dev) (n:Int):Bool:=dZ d && (decide (0<=n) && decide (n<iJ d))
def bI (d:Dev) (n:Int):Bool:=fD d n && sN d (n / aQ d) (n % aQ d)
theorem fM {d:Dev} (h:dZ d=true):9<=d.W * d.H/\d.W * d.H<=36:=by
 obtain ⟨g,h1,h2⟩:=pM h
 omega
theorem eT {d:Dev} (h:dZ d=true):11<=aQ d/\aQ d<=23:=by
 have:=ay h
 unfold aQ
 omega
theorem jc {a b A B:Int} (h0:0<=a) (h1:a<=A) (k0:0<=b) (g:b<=B):0<=a * b/\a * b<=A * B :=
 ⟨Int.mul_nonneg h0 k0,Int.mul_le_mul h1 g k0 (by omega)⟩
theorem iG {d:Dev} (h:dZ d=true):99<=iJ d/\iJ d<=828:=by
 obtain ⟨h1,h2⟩:=fM h
 obtain ⟨h3,h4⟩:=eT h
 unfold iJ
 refine ⟨?_,(jc (by omega) h2 (by omega) h4).2⟩
 have:9 * 11<=d.W * d.H * aQ d:=Int.mul_le_mul h1 h3 (by omega) (by omega)
 omega
theorem pX {d:Dev} {t:Int} (h:az d t=true):0<=t % d.W/\t % d.W<d.W/\0<=t / d.W/\t / d.W<d.H/\t=t / d.W * d.W+t % d.W:=by
 obtain ⟨g,h0,h1⟩:=aV.1 h
 obtain ⟨j,q,_⟩:=ay g
 refine ⟨Int.emod_nonneg _ (by omega),Int.emod_lt_of_pos _ (by omega),Int.ediv_nonneg h0 (by omega),?_,?_⟩
 ·exact Int.ediv_lt_of_lt_mul (by omega) (by rw [Int.mul_comm];exact h1)
 have:=Int.emod_add_mul_ediv t d.W
 rw [Int.mul_comm (t / d.W)]
 omega
theorem jG {d:Dev} {n:Int} (h:fD d n=true):dZ d=true/\0<=n/\n<=827/\0<=n / aQ d/\n / aQ d<d.W * d.H/\0<=n % aQ d/\n % aQ d<aQ d:=by
 simp only [fD,Bool.and_eq_true,decide_eq_true_eq] at h
 obtain ⟨g,h0,h1⟩:=h
 have:=iG g
 have j:=eT g
 exact ⟨g,h0,by omega,Int.ediv_nonneg h0 (by omega),Int.ediv_lt_of_lt_mul (by omega) h1,Int.emod_nonneg _ (by omega),Int.emod_lt_of_pos _ (by omega)⟩
theorem lQ {d:Dev} {n:Int} (h:fD d n=true):az d (n / aQ d)=true:=by
 obtain ⟨g,_,_,h1,h2,_⟩:=jG h
 exact aV.2 ⟨g,h1,h2⟩
theorem pG {a b q r:Int} (h:a=q * b+r) (h0:0<=r) (h1:r<b):a / b=q/\a % b=r:=by
 subst h
 constructor
 ·rw [Int.add_comm,Int.add_mul_ediv_right _ _ (by omega),Int.ediv_eq_zero_of_lt h0 h1];omega
 rw [Int.add_comm,Int.add_mul_emod_self_right,Int.emod_eq_of_lt h0 h1]
theorem Bf {d:Dev} {t r s:Int} (h:nZ d t r s=true):0<=stX d t r s/\stX d t r s<d.W/\0<=stY d t r s/\stY d t r s<d.H:=by
 simp only [nZ,Bool.and_eq_true,aU] at h
 omega
theorem Al {d:Dev} (j:dZ d=true) {x y:Int} (u:0<=x) (g:x<d.W) (q:0<=y) (z:y<d.H):az d (y * d.W+x)=true/\(y * d.W+x) % d.W=x/\(y * d.W+x) / d.W=y:=by
 obtain ⟨B,D,_⟩:=ay j
 obtain ⟨e1,e2⟩:=pG (a:=y * d.W+x) rfl u g
 refine ⟨aV.2 ⟨j,?_,?_⟩,e2,e1⟩
 ·have:=Int.mul_nonneg q (show 0<=d.W by omega);omega
 have:y * d.W<=(d.H - 1) * d.W:=Int.mul_le_mul_of_nonneg_right (by omega) (by omega)
 have e:(d.H - 1) * d.W=d.W * d.H - d.W:=by rw [Int.sub_mul,Int.one_mul,Int.mul_comm]
 omega
theorem pI {d:Dev} {t r s:Int} (g:dZ d=true) (h:0<=av d t r s):nZ d t r s=true/\az d (av d t r s)=true/\av d t r s % d.W=stX d t r s/\av d t r s / d.W=stY d t r s:=by
 cases hs:nZ d t r s with
 | false=>rw [av,hs] at h;simp at h
 | true =>
  rw [av,if_pos hs]
  obtain ⟨a,b,c,e⟩:=Bf hs
  exact ⟨rfl,Al g a b c e⟩
theorem D9 {d:Dev} {t r s:Int} (h:nZ d t r s=false):av d t r s=-1:=by rw [av,h];simp
theorem kI {d:Dev} {t r s:Int} (g:dZ d=true):-1<=av d t r s/\av d t r s<d.W * d.H:=by
 have:=fM g
 cases hs:nZ d t r s with
 | false=>rw [D9 hs];omega
 | true =>
  have h0:0<=av d t r s:=by
   rw [av,if_pos hs]
   obtain ⟨a,_,c,_⟩:=Bf hs
   have:=Int.mul_nonneg c (show 0<=d.W by have:=ay g;omega)
   omega
  have:=aV.1 (pI g h0).2.1
  omega
theorem Cm {d:Dev} {t r s:Int} (ht:az d t=true) (hr:0<=r) (g:r<=3) (h:0<=av d t ((r+2) % 4) s):av d (av d t ((r+2) % 4) s) r s=t:=by
 have j:=(aV.1 ht).1
 obtain ⟨_,_,q,z⟩:=pI j h
 obtain ⟨u,J,B,I,H⟩:=pX ht
 have D:stX d (av d t ((r+2) % 4) s) r s=t % d.W:=by
  rw [stX,q]
  have:r=0∨r=1∨r=2∨r=3:=by omega
  rcases this with rfl|rfl|rfl|rfl <;> simp [stX] <;> omega
 have G:stY d (av d t ((r+2) % 4) s) r s=t / d.W:=by
  rw [stY,z]
  have:r=0∨r=1∨r=2∨r=3:=by omega
  rcases this with rfl|rfl|rfl|rfl <;> simp [stY] <;> omega
 rw [av,nZ,D,G,aU.2 ⟨u,by omega⟩,aU.2 ⟨B,by omega⟩]
 simp only [Bool.and_self,if_true]
 exact H.symm
theorem EB {d:Dev} {t r s q:Int} (u:dZ d=true) (hr:0<=r) (D:r<=3) (h:0<=av d t r s) (G:0<=av d t r q) (e:av d t r s=av d t r q):s=q:=by
 obtain ⟨_,_,z,B⟩:=pI u h
 obtain ⟨_,_,j,g⟩:=pI u G
 rw [e] at z B
 rw [z] at j
 rw [B] at g
 have:r=0∨r=1∨r=2∨r=3:=by omega
 rcases this with rfl|rfl|rfl|rfl <;> simp [stX,stY] at j g <;> omega
/-! ### ascending lists -/
def ins:List Int→Int→List Int
 | [],x=>[x]
 | y :: l,x=>if y<x then y :: ins l x else if y=x then y :: l else x :: y :: l
def asc (l:List Int):List Int:=l.foldl ins []
theorem Bg {l:List Int} {x y:Int}:y∈ins l x↔y=x∨y∈l:=by
 induction l with
 | nil=>simp [ins]
 | cons z l ih =>
  rw [ins]
  split
  ·simp only [List.mem_cons,ih]
   constructor
   ·rintro (h|h|h) <;> simp [h]
   rintro (h|h|h) <;> simp [h]
  split
  ·rename_i h
   subst h
   simp only [List.mem_cons]
   constructor
   ·rintro (h|h) <;> simp [h]
   rintro (h|h|h) <;> simp [h]
  simp
def Asc (l:List Int):Prop:=l.Pairwise (·<·)
theorem Et {l:List Int} {x:Int} (h:Asc l):Asc (ins l x):=by
 induction l with
 | nil=>simp [ins,Asc]
 | cons z l ih =>
  unfold Asc at *
  rw [List.pairwise_cons] at h
  rw [ins]
  split
  ·rw [List.pairwise_cons]
   refine ⟨fun y g=>?_,ih h.2⟩
   rcases Bg.1 g with rfl|g
   ·assumption
   exact h.1 y g
  split
  ·rw [List.pairwise_cons];exact h
  rw [List.pairwise_cons]
  refine ⟨fun y g=>?_,List.pairwise_cons.2 h⟩
  rcases List.mem_cons.1 g with rfl|g
  ·omega
  have:=h.1 y g;omega
theorem xA {l:List Int}:∀{l0:List Int},Asc l0→Asc (l.foldl ins l0)/\∀y,y∈l.foldl ins l0↔y∈l0∨y∈l:=by
 induction l with
 | nil=>intro l0 h;exact ⟨h,by simp⟩
 | cons x l ih =>
  intro l0 h
  obtain ⟨h1,h2⟩:=ih (Et (x:=x) h)
  refine ⟨h1,fun y=>?_⟩
  rw [List.foldl_cons,h2,Bg,List.mem_cons]
  constructor
  ·rintro ((h|h)|h) <;> simp [h]
  rintro (h|h|h) <;> simp [h]
theorem uT (l:List Int):Asc (asc l):=(xA (l:=l) (l0:=[]) (by simp [Asc])).1
theorem sO {l:List Int} {y:Int}:y∈asc l↔y∈l:=by rw [asc,(xA (l:=l) (l0:=[]) (by simp [Asc])).2];simp
theorem pY (l:List Int) (x:Int):asc (l++[x])=ins (asc l) x:=by simp [asc]
theorem qp (l:List Int) (x:Int):(ins l x).length<=l.length+1:=by
 induction l with
 | nil=>simp [ins]
 | cons z l ih =>
  rw [ins]
  split
  ·simp;omega
  split <;> simp
theorem jQ (l:List Int):(asc l).length<=l.length:=by
 have:∀l0:List Int,(l.foldl ins l0).length<=l0.length+l.length:=by
  induction l with
  | nil=>intro l0;simp
  | cons x l ih=>intro l0;have h1:=ih (ins l0 x);have:=qp l0 x;simp only [List.foldl_cons,List.length_cons];omega
 simpa [asc] using this []
theorem pg:∀{l m:List Int},Asc l→Asc m→(∀y,y∈l↔y∈m)→l=m
 | [],[],_,_,_=>rfl
 | [],y :: m,_,_,h=>by have:=(h y).2 (by simp);simp at this
 | x :: l,[],_,_,h=>by have:=(h x).1 (by simp);simp at this
 | x :: l,y :: m,h1,h2,h=>by
  unfold Asc at *
  rw [List.pairwise_cons] at h1 h2
  have j:x=y:=by
   have a:=(h x).1 (by simp)
   have b:=(h y).2 (by simp)
   rcases List.mem_cons.1 a with a|a
   ·exact a
   rcases List.mem_cons.1 b with b|b
   ·exact b.symm
   have:=h1.1 y b
   have:=h2.1 x a
   omega
  subst j
  rw [pg (l:=l) (m:=m) h1.2 h2.2 fun z=>?_]
  constructor
  ·intro g
   have:=(h z).1 (by simp [g])
   rcases List.mem_cons.1 this with rfl|this
   ·have:=h1.1 z g;omega
   exact this
  intro g
  have:=(h z).2 (by simp [g])
  rcases List.mem_cons.1 this with rfl|this
  ·have:=h2.1 z g;omega
  exact this
theorem Am {l m:List Int} (j:l.Perm m) (hs:l.Pairwise (·<=·)) (hn:m.Nodup):l=asc m:=by
 have g:l.Pairwise (·≠·):=j.nodup_iff.2 hn
 refine pg ?_ (uT _) fun y=>by rw [sO];exact j.mem_iff
 unfold Asc
 exact (hs.and g).imp fun ⟨a,b⟩=>by omega
theorem C8 {l m:List Int} (h:∀y,y∈l↔y∈m):asc l=asc m:=pg (uT _) (uT _) fun y=>by rw [sO,sO];exact h y
/-! ### the sources of a node -/
def jk (d:Dev) (t r k s:Int):Int:=eD d (av d t ((r+2) % 4) s) r k
def mE (x:Int):List Int:=if 0<=x then [x] else []
theorem qa {x y:Int}:y∈mE x↔y=x/\0<=x:=by unfold mE;split <;> simp [*]
def tJ (d:Dev) (pin k:Int):Bool:=!(decide (d.T>1) && decide ((k+pin) % 2=1))
def uU (d:Dev) (j g r k s:Int):Bool:=decide (r≠(j+2) % 4) && ((decide (k=g) || decide (k=(g+1) % d.T)) && decide (s=bR k))
def lu (d:Dev) (pin r k s:Int):Bool:=if 7<=pin then uU d ((pin - 7) / d.T) ((pin - 7) % d.T) r k s else tJ d pin k
def lv (d:Dev) (t pin r k s:Int):List Int:=if lu d pin r k s=true then mE (jk d t r k s) else []
def iM (d:Dev) (t pin r k:Int) (s:Nat):List Int:=(List.range s).flatMap fun (j:Nat)=>lv d t pin r k ((j:Int)+1)
def jC (d:Dev) (t pin r:Int) (k:Nat):List Int:=(List.range k).flatMap fun (j:Nat)=>iM d t pin r (j:Int) (bR (j:Int)).toNat
def iH (d:Dev) (t pin:Int) (r:Nat):List Int:=(List.range r).flatMap fun (j:Nat)=>jC d t pin (j:Int) d.T.toNat
def jB (d:Dev) (t:Int):List Int:=if eQ (bH d t)>1 then [ed d t 0,ed d t 1] else [ed d t 0]
def jl (d:Dev) (t pin:Int):List Int:=(if 7<=pin then jB d t else [])++iH d t pin 4
def jT (d:Dev) (n:Int):List Int:=if bI d n=true/\¬(n % aQ d=5∨n % aQ d=6) then asc (jl d (n / aQ d) (n % aQ d)) else []
theorem pq {d:Dev} {t r k s:Int} (_hd:dZ d=true) (h:0<=jk d t r k s) :
  az d (av d t ((r+2) % 4) s)=true/\(0<=r/\r<=3)/\(0<=k/\k<d.T)/\0<=av d (av d t ((r+2) % 4) s) r (bR k)/\jk d t r k s=av d t ((r+2) % 4) s * aQ d+(7+r * d.T+k):=by
 unfold jk at h ⊢
 unfold eD at h ⊢
 split at h
 ·rename_i hc
  rw [if_pos hc]
  exact ⟨hc.1,hc.2.1,hc.2.2.1,hc.2.2.2,by omega⟩
 omega
theorem ng {d:Dev} {t r k s:Int} (g:dZ d=true) (h:0<=jk d t r k s):jk d t r k s / aQ d=av d t ((r+2) % 4) s/\jk d t r k s % aQ d=7+r * d.T+k/\7<=7+r * d.T+k:=by
 obtain ⟨h1,⟨q,j⟩,⟨k0,z⟩,_,e⟩:=pq g h
 have u:=ay g
 have B:=jc q j (show 0<=d.T by omega) (Int.le_refl d.T)
 have:=pG (b:=aQ d) e (by omega) (by unfold aQ;omega)
 exact ⟨this.1,this.2,by omega⟩
theorem EC {T r k j g:Int} (k0:0<=k) (z:k<T) (q:0<=g) (u:g<T) (e:7+r * T+k=7+j * T+g):r=j/\k=g:=by
 have h1:=pG (a:=r * T+k) rfl k0 z
 have h2:=pG (a:=j * T+g) rfl q u
 have e':r * T+k=j * T+g:=by omega
 rw [e'] at h1
 exact ⟨h1.1.symm.trans h2.1,h1.2.symm.trans h2.2⟩
theorem kP {d:Dev} {t pin r k s y:Int}:y∈lv d t pin r k s↔lu d pin r k s=true/\y=jk d t r k s/\0<=jk d t r k s:=by
 unfold lv
 split
 ·rename_i h;rw [qa];simp [h]
 rename_i h;simp [h]
theorem mr {d:Dev} {t pin r k y:Int} {s:Nat}:y∈iM d t pin r k s↔∃j,j<s/\y∈lv d t pin r k ((j:Int)+1):=by simp [iM]
theorem qb {d:Dev} {t pin r y:Int} {k:Nat}:y∈jC d t pin r k↔∃j,j<k/\y∈iM d t pin r (j:Int) (bR (j:Int)).toNat:=by simp [jC]
theorem C9 {d:Dev} {t pin y:Int} {r:Nat}:y∈iH d t pin r↔∃j,j<r/\y∈jC d t pin (j:Int) d.T.toNat:=by simp [iH]
theorem vP {d:Dev} {t pin y:Int} (_hd:dZ d=true):y∈iH d t pin 4↔∃r k s:Int,(0<=r/\r<=3)/\(0<=k/\k<d.T)/\(1<=s/\s<=bR k)/\lu d pin r k s=true/\y=jk d t r k s/\0<=y:=by
 rw [C9]
 constructor
 ·rintro ⟨r,hr,h⟩
  obtain ⟨k,hk,h⟩:=qb.1 h
  obtain ⟨s,hs,h⟩:=mr.1 h
  obtain ⟨h1,h2,h3⟩:=kP.1 h
  exact ⟨r,k,(s:Int)+1,by omega,by omega,by omega,h1,h2,by omega⟩
 rintro ⟨r,k,s,hr,hk,hs,h1,h2,h3⟩
 refine ⟨r.toNat,by omega,qb.2 ⟨k.toNat,by omega,mr.2 ⟨(s - 1).toNat,by rw [show ((k.toNat:Nat):Int)=k by omega];omega,kP.2 ?_⟩⟩⟩
 rw [show ((r.toNat:Nat):Int)=r by omega,show ((k.toNat:Nat):Int)=k by omega,show (((s - 1).toNat:Nat):Int)+1=s by omega]
 exact ⟨h1,h2,by omega⟩
theorem zX (d:Dev) (t pin r k s:Int):(lv d t pin r k s).Nodup:=by
 unfold lv mE
 split
 ·split <;> simp
 simp
theorem vQ (n:Nat):(List.range n).Pairwise (·≠·):=List.nodup_range
theorem zY (d:Dev) (g:dZ d=true) (t pin:Int):(iH d t pin 4).Nodup:=by
 have hk:∀r k:Int,0<=r/\r<=3→∀s:Nat,(iM d t pin r k s).Nodup:=by
  intro r k hr s
  unfold List.Nodup iM
  rw [List.pairwise_flatMap]
  refine ⟨fun a _=>zX _ _ _ _ _ _,(vQ _).imp ?_⟩
  intro a b B x j y q e
  obtain ⟨_,rfl,h1⟩:=kP.1 j
  obtain ⟨_,rfl,h2⟩:=kP.1 q
  have e1:=(ng g h1).1
  have e2:=(ng g h2).1
  rw [e,e2] at e1
  have z:=(aV.1 (pq g h1).1).2.1
  have u:=(aV.1 (pq g h2).1).2.1
  have:=EB g (by omega) (by omega) u z e1
  omega
 have hr:∀r:Int,0<=r/\r<=3→(jC d t pin r d.T.toNat).Nodup:=by
  intro r hr
  unfold List.Nodup jC
  rw [List.pairwise_flatMap]
  refine ⟨fun a _=>hk _ _ hr _,(vQ _).imp ?_⟩
  intro a b B x j y q e
  obtain ⟨_,_,j⟩:=mr.1 j
  obtain ⟨_,_,q⟩:=mr.1 q
  obtain ⟨_,rfl,h1⟩:=kP.1 j
  obtain ⟨_,rfl,h2⟩:=kP.1 q
  have e1:=(ng g h1).2.1
  have e2:=(ng g h2).2.1
  rw [e,e2] at e1
  have z:=(pq g h1).2.2.1
  have u:=(pq g h2).2.2.1
  have:=(EC u.1 u.2 z.1 z.2 e1).2
  omega
 unfold List.Nodup iH
 rw [List.pairwise_flatMap]
 refine ⟨fun a D=>hr _ (by have:=List.mem_range.1 D;omega),(vQ _).imp ?_⟩
 intro a b B x j y q e
 obtain ⟨_,_,j⟩:=qb.1 j
 obtain ⟨_,_,q⟩:=qb.1 q
 obtain ⟨_,_,j⟩:=mr.1 j
 obtain ⟨_,_,q⟩:=mr.1 q
 obtain ⟨_,rfl,h1⟩:=kP.1 j
 obtain ⟨_,rfl,h2⟩:=kP.1 q
 have e1:=(ng g h1).2.1
 have e2:=(ng g h2).2.1
 rw [e,e2] at e1
 have z:=(pq g h1).2.2.1
 have u:=(pq g h2).2.2.1
 have:=(EC u.1 u.2 z.1 z.2 e1).1
 omega
theorem iR (d:Dev) (t:Int):eQ (bH d t)=1∨eQ (bH d t)=2:=by
 rcases lN d t with h|h|h <;> rw [h] <;> simp [eQ]
theorem pJ (d:Dev) (t:Int):1<=jA (bH d t)/\jA (bH d t)<=5:=by
 rcases lN d t with h|h|h <;> rw [h] <;> simp [jA]
theorem DC {d:Dev} {t p:Int} (ht:az d t=true) (h0:0<=p) (h1:p<eQ (bH d t)):ed d t p=t * aQ d+5+p:=by rw [ed,if_pos ⟨ht,h0,h1⟩]
theorem pu {d:Dev} {t p:Int} (ht:az d t=true) (h0:0<=p) (h1:p<eQ (bH d t)):ed d t p / aQ d=t/\ed d t p % aQ d=5+p/\0<=ed d t p:=by
 have g:=eT (aV.1 ht).1
 have:=iR d t
 rw [DC ht h0 h1]
 have:=pG (a:=t * aQ d+5+p) (b:=aQ d) (q:=t) (r:=5+p) (by omega) (by omega) (by omega)
 have h3:=Int.mul_nonneg (aV.1 ht).2.1 (show 0<=aQ d by omega)
 exact ⟨this.1,this.2,by omega⟩
theorem vR {d:Dev} {t y:Int}:y∈jB d t↔∃p,(0<=p/\p<eQ (bH d t))/\y=ed d t p:=by
 unfold jB
 have:=iR d t
 split
 ·simp only [List.mem_cons,List.not_mem_nil,or_false]
  constructor
  ·rintro (rfl|rfl)
   ·exact ⟨0,by omega,rfl⟩
   exact ⟨1,by omega,rfl⟩
  rintro ⟨p,g,rfl⟩
  have:p=0∨p=1:=by omega
  rcases this with rfl|rfl <;> simp
 simp only [List.mem_cons,List.not_mem_nil,or_false]
 constructor
 ·rintro rfl
  exact ⟨0,by omega,rfl⟩
 rintro ⟨p,g,rfl⟩
 have:p=0:=by omega
 rw [this]
theorem zZ {d:Dev} {t pin:Int} (ht:az d t=true):(jl d t pin).Nodup:=by
 have j:=(aV.1 ht).1
 unfold jl List.Nodup
 rw [List.pairwise_append]
 have:=iR d t
 refine ⟨?_,zY d j t pin,?_⟩
 ·split
  ·unfold jB
   split
   ·have u:=(pu ht (p:=0) (by omega) (by omega)).2.1
    have e1:=(pu ht (p:=1) (by omega) (by omega)).2.1
    simp only [List.pairwise_cons,List.mem_singleton,List.not_mem_nil,List.Pairwise.nil,and_true]
    refine ⟨?_,by simp⟩
    rintro a rfl e
    rw [e,e1] at u
    omega
   simp
  simp
 intro x g y z e
 split at g
 ·obtain ⟨p,q,rfl⟩:=vR.1 g
  obtain ⟨r,k,s,_,_,_,_,h1,h2⟩:=(vP j).1 z
  have e1:=(pu ht q.1 q.2).2.1
  have e2:=(ng j (show 0<=jk d t r k s by omega))
  rw [e,h1,e2.2.1] at e1
  omega
 simp at g
theorem uF {d:Dev} {n:Int} {l:List Int} (h:bI d n=true) (hn:¬(n % aQ d=5∨n % aQ d=6)) (j:l.Perm (jl d (n / aQ d) (n % aQ d))) (hs:l.Pairwise (·<=·)):l=jT d n:=by
 have g:=h
 unfold bI at g
 rw [Bool.and_eq_true] at g
 rw [jT,if_pos ⟨h,hn⟩]
 exact Am j hs (zZ (lQ g.1))
end Go.Proofs.YtofihjoanjkdmaaGreat
