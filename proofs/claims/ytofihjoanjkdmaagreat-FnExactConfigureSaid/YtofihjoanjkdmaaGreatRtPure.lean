/- The kinds of tiles and the states of a device: the program's answers and the reference's are one. -/
import Derived.Test.YtofihjoanjkdmaaGreatPads
namespace Go.Proofs.YtofihjoanjkdmaaGreat
set_option maxHeartbeats 1000000
set_option maxRecDepth 100000
open Go.RowKit
def bL (d:Dev) (t:Int):Int :=
 if t % d.W=0∨t % d.W=d.W - 1∨t / d.W=0∨t / d.W=d.H - 1 then 0 else if t % d.W=d.R then 2 else 1
theorem lV (d:Dev) (t:Int):bL d t=0∨bL d t=1∨bL d t=2:=by
 unfold bL
 split
 ·simp
 split <;> simp
def kE (d:Dev) (t:Int):Int:=if dR d=true/\0<=t/\t<d.W * d.H then bL d t else -1
theorem mV (d:Dev) (t:Int) (w:World) (g:dR d=true) (ht:0<=t) (H:t<=1099511627776) :
  Calls Tryz.prog 217 #[.agg (dv d),.int .i64 t] w fun e w'=>e = .returned (.int .i64 (bL d t))/\Below w.heap.size w w':=by
 obtain ⟨z,B,D,j,_⟩:=ay g
 have q:¬d.W=0:=by omega
 have e1:t.tmod d.W=t % d.W:=Int.tmod_eq_emod_of_nonneg ht
 have e2:IntKind.i64.wrap (t.tdiv d.W)=t / d.W:=IntWalk.i64_quo _ _ ⟨ht,by omega,by omega⟩
 have G:0<=t % d.W:=Int.emod_nonneg _ q
 have u:t % d.W<d.W:=Int.emod_lt_of_pos _ (by omega)
 clear g
 go_enter Tryz.func217,Tryz.ntmps217
 go_wp2_with fail
 go_quiet (fail)
 clear e1 e2
 go_wp2_with fail
 all_goals (go_ret;exact ⟨aL (by (try simp only [beq_iff_eq,beq_eq_false_iff_ne,ne_eq] at *);first|(rw [bL,if_pos (by omega)])|(rw [bL,if_neg (by omega),if_pos (by omega)])|(rw [bL,if_neg (by omega),if_neg (by omega)])),bE (aB (Below.refl _ _) _) _⟩)
theorem rA (d:Dev) (t:Int) (w:World) (K:t<=1099511627776) :
  Calls Tryz.prog 113 #[.agg (dv d),.int .i64 t] w fun e w'=>e = .returned (.int .i64 (kE d t))/\Below w.heap.size w w':=by
 go_enter Tryz.func113,Tryz.ntmps113
 go_wp2_with fail
 refine (fw d _).mono ?_
 rintro e w1 ⟨rfl,u⟩
 obtain ⟨hcc,J⟩:=bG u
 have j:=Hd (aA (aB (Below.refl _ _) _) u)
 clear u
 cases g:dR d with
 | false =>
  have q:=Hd g
  clear g
  go_wp2_with fail
  go_ret
  exact ⟨aL (by rw [kE,if_neg (by rw [q.out];simp)]),j.out⟩
 | true =>
  obtain ⟨D,V,Q⟩:=lD g
  obtain ⟨U,I,G,B,_⟩:=ay g
  obtain ⟨q,z⟩:=hd2 g D
  clear g
  by_cases h0:t<0
  ·go_wp2_with fail
   go_ret
   exact ⟨aL (by rw [kE,if_neg (by omega)]),j.out⟩
  by_cases h1:t≥(oM d:Int)
  ·go_wp2_with fail
   go_ret
   exact ⟨aL (by rw [kE,if_neg (by rw [z.out];omega)]),j.out⟩
  have H:¬d.W=0:=by omega
  have Z:0<=t % d.W:=Int.emod_nonneg _ H
  have R:t % d.W<d.W:=Int.emod_lt_of_pos _ (by omega)
  have hk:kE d t=bL d t:=by rw [kE,if_pos ⟨q.out,by omega,by rw [z.out];omega⟩]
  have Y:=Hd hk
  clear hk
  go_wp2_with fail
  all_goals (go_ret;exact ⟨aL (by rw [Y.out];(try simp only [beq_iff_eq,beq_eq_false_iff_ne,ne_eq] at *);first|(rw [bL,if_pos (by omega)])|(rw [bL,if_neg (by omega),if_pos (by omega)])|(rw [bL,if_neg (by omega),if_neg (by omega)])),j.out⟩)
theorem zY {d:Dev} {t:Int} (g:dR d=true) (h0:0<=t) (h1:t<d.W * d.H):kE d t=bL d t:=by rw [kE,if_pos ⟨g,h0,h1⟩]
def aV (d:Dev):Int:=7+4 * d.T
def jT (k:Int):Int:=if k=0 then 1 else if k=1 then 5 else if k=2 then 4 else 0
def eF (k:Int):Int:=if k=0 then 1 else if k=1 then 2 else if k=2 then 1 else 0
def stX (d:Dev) (t r s:Int):Int:=if r=0 then t % d.W+s else if r=2 then t % d.W - s else t % d.W
def stY (d:Dev) (t r s:Int):Int:=if r=1 then t / d.W+s else if r=0 then t / d.W else if r=2 then t / d.W else t / d.W - s
def nW (d:Dev) (t r s:Int):Bool:=inR (stX d t r s) 0 (d.W - 1) && inR (stY d t r s) 0 (d.H - 1)
def ax (d:Dev) (t r s:Int):Int:=if nW d t r s=true then stY d t r s * d.W+stX d t r s else -1
def bg (k:Int):Int:=1+k % 2
def gH (d:Dev):Int:=d.W * d.H * aV d
def bB (d:Dev) (t:Int):Bool:=dR d && (decide (0<=t) && decide (t<d.W * d.H))
theorem aU {d:Dev} {t:Int}:bB d t=true↔dR d=true/\0<=t/\t<d.W * d.H:=by simp [bB]
def eX (d:Dev) (t p:Int):Int:=if bB d t=true/\0<=p/\p<eF (bL d t) then t * aV d+5+p else -1
def d9 (d:Dev) (t r k:Int):Int:=if bB d t=true/\(0<=r/\r<=3)/\(0<=k/\k<d.T)/\0<=ax d t r (bg k) then t * aV d+7+r * d.T+k else -1
def sS (d:Dev) (t k:Int):Bool :=
 if k<5 then decide (k<jT (bL d t)) else if k<7 then decide (k - 5<eF (bL d t)) else decide (0<=ax d t ((k - 7) / d.T) (bg ((k - 7) % d.T)))
def fP (d:Dev) (n:Int):Bool:=dR d && (decide (0<=n) && decide (n<gH d))
def bQ (d:Dev) (n:Int):Bool:=fP d n && sS d (n / aV d) (n % aV d)
theorem fJ {d:Dev} (h:dR d=true):9<=d.W * d.H/\d.W * d.H<=36:=by
 obtain ⟨g,h1,h2⟩:=lD h
 omega
theorem eP {d:Dev} (h:dR d=true):11<=aV d/\aV d<=23:=by
 have:=ay h
 unfold aV
 omega
theorem jc {a b A B:Int} (h0:0<=a) (h1:a<=A) (k0:0<=b) (g:b<=B):0<=a * b/\a * b<=A * B :=
 ⟨Int.mul_nonneg h0 k0,Int.mul_le_mul h1 g k0 (by omega)⟩
theorem fZ {d:Dev} (h:dR d=true):99<=gH d/\gH d<=828:=by
 obtain ⟨h1,h2⟩:=fJ h
 obtain ⟨h3,h4⟩:=eP h
 unfold gH
 refine ⟨?_,(jc (by omega) h2 (by omega) h4).2⟩
 have:9 * 11<=d.W * d.H * aV d:=Int.mul_le_mul h1 h3 (by omega) (by omega)
 omega
theorem p9 {d:Dev} {t:Int} (h:bB d t=true):0<=t % d.W/\t % d.W<d.W/\0<=t / d.W/\t / d.W<d.H/\t=t / d.W * d.W+t % d.W:=by
 obtain ⟨g,h0,h1⟩:=aU.1 h
 obtain ⟨j,q,_⟩:=ay g
 refine ⟨Int.emod_nonneg _ (by omega),Int.emod_lt_of_pos _ (by omega),Int.ediv_nonneg h0 (by omega),?_,?_⟩
 ·exact Int.ediv_lt_of_lt_mul (by omega) (by rw [Int.mul_comm];exact h1)
 have:=Int.emod_add_mul_ediv t d.W
 rw [Int.mul_comm (t / d.W)]
 omega
theorem il {d:Dev} {n:Int} (h:fP d n=true):dR d=true/\0<=n/\n<=827/\0<=n / aV d/\n / aV d<d.W * d.H/\0<=n % aV d/\n % aV d<aV d:=by
 simp only [fP,Bool.and_eq_true,decide_eq_true_eq] at h
 obtain ⟨g,h0,h1⟩:=h
 have:=fZ g
 have j:=eP g
 exact ⟨g,h0,by omega,Int.ediv_nonneg h0 (by omega),Int.ediv_lt_of_lt_mul (by omega) h1,Int.emod_nonneg _ (by omega),Int.emod_lt_of_pos _ (by omega)⟩
theorem lW {d:Dev} {n:Int} (h:fP d n=true):bB d (n / aV d)=true:=by
 obtain ⟨g,_,_,h1,h2,_⟩:=il h
 exact aU.2 ⟨g,h1,h2⟩
theorem pJ {a b q r:Int} (h:a=q * b+r) (h0:0<=r) (h1:r<b):a / b=q/\a % b=r:=by
 subst h
 constructor
 ·rw [Int.add_comm,Int.add_mul_ediv_right _ _ (by omega),Int.ediv_eq_zero_of_lt h0 h1];omega
 rw [Int.add_comm,Int.add_mul_emod_self_right,Int.emod_eq_of_lt h0 h1]
theorem Bv {d:Dev} {t r s:Int} (h:nW d t r s=true):0<=stX d t r s/\stX d t r s<d.W/\0<=stY d t r s/\stY d t r s<d.H:=by
 simp only [nW,Bool.and_eq_true,aR] at h
 omega
theorem BB {d:Dev} (j:dR d=true) {x y:Int} (u:0<=x) (g:x<d.W) (z:0<=y) (q:y<d.H):bB d (y * d.W+x)=true/\(y * d.W+x) % d.W=x/\(y * d.W+x) / d.W=y:=by
 obtain ⟨B,D,_⟩:=ay j
 obtain ⟨e1,e2⟩:=pJ (a:=y * d.W+x) rfl u g
 refine ⟨aU.2 ⟨j,?_,?_⟩,e2,e1⟩
 ·have:=Int.mul_nonneg z (show 0<=d.W by omega);omega
 have:y * d.W<=(d.H - 1) * d.W:=Int.mul_le_mul_of_nonneg_right (by omega) (by omega)
 have e:(d.H - 1) * d.W=d.W * d.H - d.W:=by rw [Int.sub_mul,Int.one_mul,Int.mul_comm]
 omega
theorem pK {d:Dev} {t r s:Int} (g:dR d=true) (h:0<=ax d t r s):nW d t r s=true/\bB d (ax d t r s)=true/\ax d t r s % d.W=stX d t r s/\ax d t r s / d.W=stY d t r s:=by
 cases hs:nW d t r s with
 | false=>rw [ax,hs] at h;simp at h
 | true =>
  rw [ax,if_pos hs]
  obtain ⟨a,b,c,e⟩:=Bv hs
  exact ⟨rfl,BB g a b c e⟩
theorem EJ {d:Dev} {t r s:Int} (h:nW d t r s=false):ax d t r s=-1:=by rw [ax,h];simp
theorem kL {d:Dev} {t r s:Int} (g:dR d=true):-1<=ax d t r s/\ax d t r s<d.W * d.H:=by
 have:=fJ g
 cases hs:nW d t r s with
 | false=>rw [EJ hs];omega
 | true =>
  have h0:0<=ax d t r s:=by
   rw [ax,if_pos hs]
   obtain ⟨a,_,c,_⟩:=Bv hs
   have:=Int.mul_nonneg c (show 0<=d.W by have:=ay g;omega)
   omega
  have:=aU.1 (pK g h0).2.1
  omega
theorem DW {d:Dev} {t r s:Int} (ht:bB d t=true) (hr:0<=r) (g:r<=3) (h:0<=ax d t ((r+2) % 4) s):ax d (ax d t ((r+2) % 4) s) r s=t:=by
 have u:=(aU.1 ht).1
 obtain ⟨_,_,H,z⟩:=pK u h
 obtain ⟨B,I,G,J,j⟩:=p9 ht
 have D:stX d (ax d t ((r+2) % 4) s) r s=t % d.W:=by
  rw [stX,H]
  have:r=0∨r=1∨r=2∨r=3:=by omega
  rcases this with rfl|rfl|rfl|rfl <;> simp [stX] <;> omega
 have q:stY d (ax d t ((r+2) % 4) s) r s=t / d.W:=by
  rw [stY,z]
  have:r=0∨r=1∨r=2∨r=3:=by omega
  rcases this with rfl|rfl|rfl|rfl <;> simp [stY] <;> omega
 rw [ax,nW,D,q,aR.2 ⟨B,by omega⟩,aR.2 ⟨G,by omega⟩]
 simp only [Bool.and_self,if_true]
 exact j.symm
theorem EK {d:Dev} {t r s q:Int} (u:dR d=true) (hr:0<=r) (D:r<=3) (h:0<=ax d t r s) (G:0<=ax d t r q) (e:ax d t r s=ax d t r q):s=q:=by
 obtain ⟨_,_,B,z⟩:=pK u h
 obtain ⟨_,_,g,j⟩:=pK u G
 rw [e] at B z
 rw [B] at g
 rw [z] at j
 have:r=0∨r=1∨r=2∨r=3:=by omega
 rcases this with rfl|rfl|rfl|rfl <;> simp [stX,stY] at g j <;> omega
/-! ### ascending lists -/
def ins:List Int→Int→List Int
 | [],x=>[x]
 | y :: l,x=>if y<x then y :: ins l x else if y=x then y :: l else x :: y :: l
def asc (l:List Int):List Int:=l.foldl ins []
theorem Bw {l:List Int} {x y:Int}:y∈ins l x↔y=x∨y∈l:=by
 induction l with
 | nil=>simp [ins]
 | cons z l ih =>
  rw [ins]
  split
  ·simp only [List.mem_cons,ih]
   constructor
   ·rintro (h|h|h) <;> simp [h]
   rintro (h|h|h) <;> simp [h]
  split
  ·rename_i h
   subst h
   simp only [List.mem_cons]
   constructor
   ·rintro (h|h) <;> simp [h]
   rintro (h|h|h) <;> simp [h]
  simp
def Asc (l:List Int):Prop:=l.Pairwise (·<·)
theorem FI {l:List Int} {x:Int} (h:Asc l):Asc (ins l x):=by
 induction l with
 | nil=>simp [ins,Asc]
 | cons z l ih =>
  unfold Asc at *
  rw [List.pairwise_cons] at h
  rw [ins]
  split
  ·rw [List.pairwise_cons]
   refine ⟨fun y g=>?_,ih h.2⟩
   rcases Bw.1 g with rfl|g
   ·assumption
   exact h.1 y g
  split
  ·rw [List.pairwise_cons];exact h
  rw [List.pairwise_cons]
  refine ⟨fun y g=>?_,List.pairwise_cons.2 h⟩
  rcases List.mem_cons.1 g with rfl|g
  ·omega
  have:=h.1 y g;omega
theorem xB {l:List Int}:∀{l0:List Int},Asc l0→Asc (l.foldl ins l0)/\∀y,y∈l.foldl ins l0↔y∈l0∨y∈l:=by
 induction l with
 | nil=>intro l0 h;exact ⟨h,by simp⟩
 | cons x l ih =>
  intro l0 h
  obtain ⟨h1,h2⟩:=ih (FI (x:=x) h)
  refine ⟨h1,fun y=>?_⟩
  rw [List.foldl_cons,h2,Bw,List.mem_cons]
  constructor
  ·rintro ((h|h)|h) <;> simp [h]
  rintro (h|h|h) <;> simp [h]
theorem uQ (l:List Int):Asc (asc l):=(xB (l:=l) (l0:=[]) (by simp [Asc])).1
theorem sU {l:List Int} {y:Int}:y∈asc l↔y∈l:=by rw [asc,(xB (l:=l) (l0:=[]) (by simp [Asc])).2];simp
theorem qA (l:List Int) (x:Int):asc (l++[x])=ins (asc l) x:=by simp [asc]
theorem rC (l:List Int) (x:Int):(ins l x).length<=l.length+1:=by
 induction l with
 | nil=>simp [ins]
 | cons z l ih =>
  rw [ins]
  split
  ·simp;omega
  split <;> simp
theorem jQ (l:List Int):(asc l).length<=l.length:=by
 have:∀l0:List Int,(l.foldl ins l0).length<=l0.length+l.length:=by
  induction l with
  | nil=>intro l0;simp
  | cons x l ih=>intro l0;have h1:=ih (ins l0 x);have:=rC l0 x;simp only [List.foldl_cons,List.length_cons];omega
 simpa [asc] using this []
theorem qB:∀{l m:List Int},Asc l→Asc m→(∀y,y∈l↔y∈m)→l=m
 | [],[],_,_,_=>rfl
 | [],y :: m,_,_,h=>by have:=(h y).2 (by simp);simp at this
 | x :: l,[],_,_,h=>by have:=(h x).1 (by simp);simp at this
 | x :: l,y :: m,h1,h2,h=>by
  unfold Asc at *
  rw [List.pairwise_cons] at h1 h2
  have j:x=y:=by
   have a:=(h x).1 (by simp)
   have b:=(h y).2 (by simp)
   rcases List.mem_cons.1 a with a|a
   ·exact a
   rcases List.mem_cons.1 b with b|b
   ·exact b.symm
   have:=h1.1 y b
   have:=h2.1 x a
   omega
  subst j
  rw [qB (l:=l) (m:=m) h1.2 h2.2 fun z=>?_]
  constructor
  ·intro g
   have:=(h z).1 (by simp [g])
   rcases List.mem_cons.1 this with rfl|this
   ·have:=h1.1 z g;omega
   exact this
  intro g
  have:=(h z).2 (by simp [g])
  rcases List.mem_cons.1 this with rfl|this
  ·have:=h2.1 z g;omega
  exact this
theorem BC {l m:List Int} (j:l.Perm m) (hs:l.Pairwise (·<=·)) (hn:m.Nodup):l=asc m:=by
 have g:l.Pairwise (·≠·):=j.nodup_iff.2 hn
 refine qB ?_ (uQ _) fun y=>by rw [sU];exact j.mem_iff
 unfold Asc
 exact (hs.and g).imp fun ⟨a,b⟩=>by omega
theorem DX {l m:List Int} (h:∀y,y∈l↔y∈m):asc l=asc m:=qB (uQ _) (uQ _) fun y=>by rw [sU,sU];exact h y
/-! ### the sources of a node -/
def jk (d:Dev) (t r k s:Int):Int:=d9 d (ax d t ((r+2) % 4) s) r k
def mO (x:Int):List Int:=if 0<=x then [x] else []
theorem qg {x y:Int}:y∈mO x↔y=x/\0<=x:=by unfold mO;split <;> simp [*]
def tQ (d:Dev) (pin k:Int):Bool:=!(decide (d.T>1) && decide ((k+pin) % 2=1))
def uR (d:Dev) (j g r k s:Int):Bool:=decide (r≠(j+2) % 4) && ((decide (k=g) || decide (k=(g+1) % d.T)) && decide (s=bg k))
def mG (d:Dev) (pin r k s:Int):Bool:=if 7<=pin then uR d ((pin - 7) / d.T) ((pin - 7) % d.T) r k s else tQ d pin k
def mH (d:Dev) (t pin r k s:Int):List Int:=if mG d pin r k s=true then mO (jk d t r k s) else []
def iQ (d:Dev) (t pin r k:Int) (s:Nat):List Int:=(List.range s).flatMap fun (j:Nat)=>mH d t pin r k ((j:Int)+1)
def jF (d:Dev) (t pin r:Int) (k:Nat):List Int:=(List.range k).flatMap fun (j:Nat)=>iQ d t pin r (j:Int) (bg (j:Int)).toNat
def iH (d:Dev) (t pin:Int) (r:Nat):List Int:=(List.range r).flatMap fun (j:Nat)=>jF d t pin (j:Int) d.T.toNat
def jC (d:Dev) (t:Int):List Int:=if eF (bL d t)>1 then [eX d t 0,eX d t 1] else [eX d t 0]
def jl (d:Dev) (t pin:Int):List Int:=(if 7<=pin then jC d t else [])++iH d t pin 4
def fe (d:Dev) (n:Int):List Int:=if bQ d n=true/\¬(n % aV d=5∨n % aV d=6) then asc (jl d (n / aV d) (n % aV d)) else []
theorem qC {d:Dev} {t r k s:Int} (_hd:dR d=true) (h:0<=jk d t r k s) :
  bB d (ax d t ((r+2) % 4) s)=true/\(0<=r/\r<=3)/\(0<=k/\k<d.T)/\0<=ax d (ax d t ((r+2) % 4) s) r (bg k)/\jk d t r k s=ax d t ((r+2) % 4) s * aV d+(7+r * d.T+k):=by
 unfold jk at h ⊢
 unfold d9 at h ⊢
 split at h
 ·rename_i hc
  rw [if_pos hc]
  exact ⟨hc.1,hc.2.1,hc.2.2.1,hc.2.2.2,by omega⟩
 omega
theorem nX {d:Dev} {t r k s:Int} (g:dR d=true) (h:0<=jk d t r k s):jk d t r k s / aV d=ax d t ((r+2) % 4) s/\jk d t r k s % aV d=7+r * d.T+k/\7<=7+r * d.T+k:=by
 obtain ⟨h1,⟨j,q⟩,⟨k0,z⟩,_,e⟩:=qC g h
 have u:=ay g
 have B:=jc j q (show 0<=d.T by omega) (Int.le_refl d.T)
 have:=pJ (b:=aV d) e (by omega) (by unfold aV;omega)
 exact ⟨this.1,this.2,by omega⟩
theorem EL {T r k j g:Int} (k0:0<=k) (z:k<T) (q:0<=g) (u:g<T) (e:7+r * T+k=7+j * T+g):r=j/\k=g:=by
 have h1:=pJ (a:=r * T+k) rfl k0 z
 have h2:=pJ (a:=j * T+g) rfl q u
 have e':r * T+k=j * T+g:=by omega
 rw [e'] at h1
 exact ⟨h1.1.symm.trans h2.1,h1.2.symm.trans h2.2⟩
theorem kR {d:Dev} {t pin r k s y:Int}:y∈mH d t pin r k s↔mG d pin r k s=true/\y=jk d t r k s/\0<=jk d t r k s:=by
 unfold mH
 split
 ·rename_i h;rw [qg];simp [h]
 rename_i h;simp [h]
theorem nD {d:Dev} {t pin r k y:Int} {s:Nat}:y∈iQ d t pin r k s↔∃j,j<s/\y∈mH d t pin r k ((j:Int)+1):=by simp [iQ]
theorem qh {d:Dev} {t pin r y:Int} {k:Nat}:y∈jF d t pin r k↔∃j,j<k/\y∈iQ d t pin r (j:Int) (bg (j:Int)).toNat:=by simp [jF]
theorem DY {d:Dev} {t pin y:Int} {r:Nat}:y∈iH d t pin r↔∃j,j<r/\y∈jF d t pin (j:Int) d.T.toNat:=by simp [iH]
theorem vK {d:Dev} {t pin y:Int} (_hd:dR d=true):y∈iH d t pin 4↔∃r k s:Int,(0<=r/\r<=3)/\(0<=k/\k<d.T)/\(1<=s/\s<=bg k)/\mG d pin r k s=true/\y=jk d t r k s/\0<=y:=by
 rw [DY]
 constructor
 ·rintro ⟨r,hr,h⟩
  obtain ⟨k,hk,h⟩:=qh.1 h
  obtain ⟨s,hs,h⟩:=nD.1 h
  obtain ⟨h1,h2,h3⟩:=kR.1 h
  exact ⟨r,k,(s:Int)+1,by omega,by omega,by omega,h1,h2,by omega⟩
 rintro ⟨r,k,s,hr,hk,hs,h1,h2,h3⟩
 refine ⟨r.toNat,by omega,qh.2 ⟨k.toNat,by omega,nD.2 ⟨(s - 1).toNat,by rw [show ((k.toNat:Nat):Int)=k by omega];omega,kR.2 ?_⟩⟩⟩
 rw [show ((r.toNat:Nat):Int)=r by omega,show ((k.toNat:Nat):Int)=k by omega,show (((s - 1).toNat:Nat):Int)+1=s by omega]
 exact ⟨h1,h2,by omega⟩
theorem zZ (d:Dev) (t pin r k s:Int):(mH d t pin r k s).Nodup:=by
 unfold mH mO
 split
 ·split <;> simp
 simp
theorem vL (n:Nat):(List.range n).Pairwise (·≠·):=List.nodup_range
theorem za (d:Dev) (g:dR d=true) (t pin:Int):(iH d t pin 4).Nodup:=by
 have hk:∀r k:Int,0<=r/\r<=3→∀s:Nat,(iQ d t pin r k s).Nodup:=by
  intro r k hr s
  unfold List.Nodup iQ
  rw [List.pairwise_flatMap]
  refine ⟨fun a _=>zZ _ _ _ _ _ _,(vL _).imp ?_⟩
  intro a b B x j y q e
  obtain ⟨_,rfl,h1⟩:=kR.1 j
  obtain ⟨_,rfl,h2⟩:=kR.1 q
  have e1:=(nX g h1).1
  have e2:=(nX g h2).1
  rw [e,e2] at e1
  have u:=(aU.1 (qC g h1).1).2.1
  have z:=(aU.1 (qC g h2).1).2.1
  have:=EK g (by omega) (by omega) z u e1
  omega
 have hr:∀r:Int,0<=r/\r<=3→(jF d t pin r d.T.toNat).Nodup:=by
  intro r hr
  unfold List.Nodup jF
  rw [List.pairwise_flatMap]
  refine ⟨fun a _=>hk _ _ hr _,(vL _).imp ?_⟩
  intro a b B x j y q e
  obtain ⟨_,_,j⟩:=nD.1 j
  obtain ⟨_,_,q⟩:=nD.1 q
  obtain ⟨_,rfl,h1⟩:=kR.1 j
  obtain ⟨_,rfl,h2⟩:=kR.1 q
  have e1:=(nX g h1).2.1
  have e2:=(nX g h2).2.1
  rw [e,e2] at e1
  have u:=(qC g h1).2.2.1
  have z:=(qC g h2).2.2.1
  have:=(EL z.1 z.2 u.1 u.2 e1).2
  omega
 unfold List.Nodup iH
 rw [List.pairwise_flatMap]
 refine ⟨fun a D=>hr _ (by have:=List.mem_range.1 D;omega),(vL _).imp ?_⟩
 intro a b B x j y q e
 obtain ⟨_,_,j⟩:=qh.1 j
 obtain ⟨_,_,q⟩:=qh.1 q
 obtain ⟨_,_,j⟩:=nD.1 j
 obtain ⟨_,_,q⟩:=nD.1 q
 obtain ⟨_,rfl,h1⟩:=kR.1 j
 obtain ⟨_,rfl,h2⟩:=kR.1 q
 have e1:=(nX g h1).2.1
 have e2:=(nX g h2).2.1
 rw [e,e2] at e1
 have u:=(qC g h1).2.2.1
 have z:=(qC g h2).2.2.1
 have:=(EL z.1 z.2 u.1 u.2 e1).1
 omega
theorem iZ (d:Dev) (t:Int):eF (bL d t)=1∨eF (bL d t)=2:=by
 rcases lV d t with h|h|h <;> rw [h] <;> simp [eF]
theorem pM (d:Dev) (t:Int):1<=jT (bL d t)/\jT (bL d t)<=5:=by
 rcases lV d t with h|h|h <;> rw [h] <;> simp [jT]
theorem DZ {d:Dev} {t p:Int} (ht:bB d t=true) (h0:0<=p) (h1:p<eF (bL d t)):eX d t p=t * aV d+5+p:=by rw [eX,if_pos ⟨ht,h0,h1⟩]
theorem qD {d:Dev} {t p:Int} (ht:bB d t=true) (h0:0<=p) (h1:p<eF (bL d t)):eX d t p / aV d=t/\eX d t p % aV d=5+p/\0<=eX d t p:=by
 have g:=eP (aU.1 ht).1
 have:=iZ d t
 rw [DZ ht h0 h1]
 have:=pJ (a:=t * aV d+5+p) (b:=aV d) (q:=t) (r:=5+p) (by omega) (by omega) (by omega)
 have h3:=Int.mul_nonneg (aU.1 ht).2.1 (show 0<=aV d by omega)
 exact ⟨this.1,this.2,by omega⟩
theorem vM {d:Dev} {t y:Int}:y∈jC d t↔∃p,(0<=p/\p<eF (bL d t))/\y=eX d t p:=by
 unfold jC
 have:=iZ d t
 split
 ·simp only [List.mem_cons,List.not_mem_nil,or_false]
  constructor
  ·rintro (rfl|rfl)
   ·exact ⟨0,by omega,rfl⟩
   exact ⟨1,by omega,rfl⟩
  rintro ⟨p,g,rfl⟩
  have:p=0∨p=1:=by omega
  rcases this with rfl|rfl <;> simp
 simp only [List.mem_cons,List.not_mem_nil,or_false]
 constructor
 ·rintro rfl
  exact ⟨0,by omega,rfl⟩
 rintro ⟨p,g,rfl⟩
 have:p=0:=by omega
 rw [this]
theorem zb {d:Dev} {t pin:Int} (ht:bB d t=true):(jl d t pin).Nodup:=by
 have g:=(aU.1 ht).1
 unfold jl List.Nodup
 rw [List.pairwise_append]
 have:=iZ d t
 refine ⟨?_,za d g t pin,?_⟩
 ·split
  ·unfold jC
   split
   ·have u:=(qD ht (p:=0) (by omega) (by omega)).2.1
    have e1:=(qD ht (p:=1) (by omega) (by omega)).2.1
    simp only [List.pairwise_cons,List.mem_singleton,List.not_mem_nil,List.Pairwise.nil,and_true]
    refine ⟨?_,by simp⟩
    rintro a rfl e
    rw [e,e1] at u
    omega
   simp
  simp
 intro x j y z e
 split at j
 ·obtain ⟨p,q,rfl⟩:=vM.1 j
  obtain ⟨r,k,s,_,_,_,_,h1,h2⟩:=(vK g).1 z
  have e1:=(qD ht q.1 q.2).2.1
  have e2:=(nX g (show 0<=jk d t r k s by omega))
  rw [e,h1,e2.2.1] at e1
  omega
 simp at j
theorem uD {d:Dev} {n:Int} {l:List Int} (h:bQ d n=true) (hn:¬(n % aV d=5∨n % aV d=6)) (j:l.Perm (jl d (n / aV d) (n % aV d))) (hs:l.Pairwise (·<=·)):l=fe d n:=by
 have g:=h
 unfold bQ at g
 rw [Bool.and_eq_true] at g
 rw [fe,if_pos ⟨h,hn⟩]
 exact BC j hs (zb (lW g.1))
end Go.Proofs.YtofihjoanjkdmaaGreat
