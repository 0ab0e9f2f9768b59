/- The routing nodes of a device in plain terms: which exist, which can drive which. -/
import Derived.Test.YtignkfhdkcgkgaaGreatCopy
import Derived.Test.YtignkfhdkcgkgaaGreatEmu
namespace Go.Proofs.YtignkfhdkcgkgaaGreat
set_option maxHeartbeats 1000000
set_option maxRecDepth 100000
open Go.RowKit
def aM (d:Dev):Int:=7+4 * d.T
def mI (k:Int):Int:=if k=0 then 1 else if k=1 then 5 else if k=2 then 4 else 0
def dn (k:Int):Int:=if k=0 then 1 else if k=1 then 2 else if k=2 then 1 else 0
def stX (d:Dev) (t r s:Int):Int:=if r=0 then t % d.W+s else if r=2 then t % d.W - s else t % d.W
def stY (d:Dev) (t r s:Int):Int:=if r=1 then t / d.W+s else if r=0 then t / d.W else if r=2 then t / d.W else t / d.W - s
def nG (d:Dev) (t r s:Int):Bool:=inR (stX d t r s) 0 (d.W - 1) && inR (stY d t r s) 0 (d.H - 1)
def bE (d:Dev) (t r s:Int):Int:=if nG d t r s=true then stY d t r s * d.W+stX d t r s else -1
def bV (k:Int):Int:=1+k % 2
def az (d:Dev):Int:=d.W * d.H * aM d
def bM (d:Dev) (t:Int):Bool:=bL d && (decide (0<=t) && decide (t<d.W * d.H))
theorem aV {d:Dev} {t:Int}:bM d t=true↔bL d=true/\0<=t/\t<d.W * d.H:=by simp [bM]
def fZ (d:Dev) (t p:Int):Int:=if bM d t=true/\0<=p/\p<dn (bA d t) then t * aM d+5+p else -1
def dL (d:Dev) (t r k:Int):Int:=if bM d t=true/\(0<=r/\r<=3)/\(0<=k/\k<d.T)/\0<=bE d t r (bV k) then t * aM d+7+r * d.T+k else -1
def uP (d:Dev) (t k:Int):Bool :=
 if k<5 then decide (k<mI (bA d t)) else if k<7 then decide (k - 5<dn (bA d t)) else decide (0<=bE d t ((k - 7) / d.T) (bV ((k - 7) % d.T)))
def cB (d:Dev) (n:Int):Bool:=bL d && (decide (0<=n) && decide (n<az d))
def bU (d:Dev) (n:Int):Bool:=cB d n && uP d (n / aM d) (n % aM d)
theorem dW {d:Dev} (h:bL d=true):9<=d.W * d.H/\d.W * d.H<=36:=by
 obtain ⟨hN,h1,h2⟩:=bO h
 omega
theorem dB {d:Dev} (h:bL d=true):11<=aM d/\aM d<=23:=by
 have:=ah h
 unfold aM
 omega
theorem jo {a b A B:Int} (h0:0<=a) (h1:a<=A) (k0:0<=b) (k1:b<=B):0<=a * b/\a * b<=A * B :=
 ⟨Int.mul_nonneg h0 k0,Int.mul_le_mul h1 k1 k0 (by omega)⟩
theorem dC {d:Dev} (h:bL d=true):99<=az d/\az d<=828:=by
 obtain ⟨h1,h2⟩:=dW h
 obtain ⟨h3,h4⟩:=dB h
 unfold az
 refine ⟨?_,(jo (by omega) h2 (by omega) h4).2⟩
 have:9 * 11<=d.W * d.H * aM d:=Int.mul_le_mul h1 h3 (by omega) (by omega)
 omega
theorem pz {d:Dev} {t:Int} (h:bM d t=true):0<=t % d.W/\t % d.W<d.W/\0<=t / d.W/\t / d.W<d.H/\t=t / d.W * d.W+t % d.W:=by
 obtain ⟨hd,h0,h1⟩:=aV.1 h
 obtain ⟨w1,w2,_⟩:=ah hd
 refine ⟨Int.emod_nonneg _ (by omega),Int.emod_lt_of_pos _ (by omega),Int.ediv_nonneg h0 (by omega),?_,?_⟩
 ·exact Int.ediv_lt_of_lt_mul (by omega) (by rw [Int.mul_comm];exact h1)
 ·have:=Int.emod_add_mul_ediv t d.W
  rw [Int.mul_comm (t / d.W)]
  omega
theorem dP {d:Dev} {n:Int} (h:cB d n=true):bL d=true/\0<=n/\n<=827/\0<=n / aM d/\n / aM d<d.W * d.H/\0<=n % aM d/\n % aM d<aM d:=by
 simp only [cB,Bool.and_eq_true,decide_eq_true_eq] at h
 obtain ⟨hd,h0,h1⟩:=h
 have:=dC hd
 have hp:=dB hd
 exact ⟨hd,h0,by omega,Int.ediv_nonneg h0 (by omega),Int.ediv_lt_of_lt_mul (by omega) h1,Int.emod_nonneg _ (by omega),Int.emod_lt_of_pos _ (by omega)⟩
theorem iK {d:Dev} {n:Int} (h:cB d n=true):bM d (n / aM d)=true:=by
 obtain ⟨hd,_,_,h1,h2,_⟩:=dP h
 exact aV.2 ⟨hd,h1,h2⟩
theorem oQ {a b q r:Int} (h:a=q * b+r) (h0:0<=r) (h1:r<b):a / b=q/\a % b=r:=by
 subst h
 constructor
 ·rw [Int.add_comm,Int.add_mul_ediv_right _ _ (by omega),Int.ediv_eq_zero_of_lt h0 h1];omega
 ·rw [Int.add_comm,Int.add_mul_emod_self_right,Int.emod_eq_of_lt h0 h1]
theorem FH {d:Dev} {t r s:Int} (h:nG d t r s=true):0<=stX d t r s/\stX d t r s<d.W/\0<=stY d t r s/\stY d t r s<d.H:=by
 simp only [nG,Bool.and_eq_true,aa] at h
 omega
theorem ER {d:Dev} (hd:bL d=true) {x y:Int} (hx:0<=x) (hx1:x<d.W) (hy:0<=y) (hy1:y<d.H):bM d (y * d.W+x)=true/\(y * d.W+x) % d.W=x/\(y * d.W+x) / d.W=y:=by
 obtain ⟨w1,w2,_⟩:=ah hd
 obtain ⟨e1,e2⟩:=oQ (a:=y * d.W+x) rfl hx hx1
 refine ⟨aV.2 ⟨hd,?_,?_⟩,e2,e1⟩
 ·have:=Int.mul_nonneg hy (show 0<=d.W by omega);omega
 ·have:y * d.W<=(d.H - 1) * d.W:=Int.mul_le_mul_of_nonneg_right (by omega) (by omega)
  have e:(d.H - 1) * d.W=d.W * d.H - d.W:=by rw [Int.sub_mul,Int.one_mul,Int.mul_comm]
  omega
theorem mf {d:Dev} {t r s:Int} (hd:bL d=true) (h:0<=bE d t r s):nG d t r s=true/\bM d (bE d t r s)=true/\bE d t r s % d.W=stX d t r s/\bE d t r s / d.W=stY d t r s:=by
 cases hs:nG d t r s with
 | false=>rw [bE,hs] at h;simp at h
 | true =>
  rw [bE,if_pos hs]
  obtain ⟨a,b,c,e⟩:=FH hs
  exact ⟨rfl,ER hd a b c e⟩
theorem IE {d:Dev} {t r s:Int} (h:nG d t r s=false):bE d t r s=-1:=by rw [bE,h];simp
theorem jq {d:Dev} {t r s:Int} (hd:bL d=true):-1<=bE d t r s/\bE d t r s<d.W * d.H:=by
 have:=dW hd
 cases hs:nG d t r s with
 | false=>rw [IE hs];omega
 | true =>
  have h0:0<=bE d t r s:=by
   rw [bE,if_pos hs]
   obtain ⟨a,_,c,_⟩:=FH hs
   have:=Int.mul_nonneg c (show 0<=d.W by have:=ah hd;omega)
   omega
  have:=aV.1 (mf hd h0).2.1
  omega
theorem GD {d:Dev} {t r s:Int} (ht:bM d t=true) (hr:0<=r) (hr3:r<=3) (h:0<=bE d t ((r+2) % 4) s):bE d (bE d t ((r+2) % 4) s) r s=t:=by
 have hd:=(aV.1 ht).1
 obtain ⟨_,_,ex,ey⟩:=mf hd h
 obtain ⟨x0,x1,y0,y1,et⟩:=pz ht
 have hX:stX d (bE d t ((r+2) % 4) s) r s=t % d.W:=by
  rw [stX,ex]
  have:r=0∨r=1∨r=2∨r=3:=by omega
  rcases this with rfl|rfl|rfl|rfl <;> simp [stX] <;> omega
 have hY:stY d (bE d t ((r+2) % 4) s) r s=t / d.W:=by
  rw [stY,ey]
  have:r=0∨r=1∨r=2∨r=3:=by omega
  rcases this with rfl|rfl|rfl|rfl <;> simp [stY] <;> omega
 rw [bE,nG,hX,hY,aa.2 ⟨x0,by omega⟩,aa.2 ⟨y0,by omega⟩]
 simp only [Bool.and_self,if_true]
 exact et.symm
theorem IG {d:Dev} {t r s s':Int} (hd:bL d=true) (hr:0<=r) (hr3:r<=3) (h:0<=bE d t r s) (h':0<=bE d t r s') (e:bE d t r s=bE d t r s'):s=s':=by
 obtain ⟨_,_,ex,ey⟩:=mf hd h
 obtain ⟨_,_,ex',ey'⟩:=mf hd h'
 rw [e] at ex ey
 rw [ex] at ex'
 rw [ey] at ey'
 have:r=0∨r=1∨r=2∨r=3:=by omega
 rcases this with rfl|rfl|rfl|rfl <;> simp [stX,stY] at ex' ey' <;> omega
/-! ### ascending lists -/
def ins:List Int→Int→List Int
 | [],x=>[x]
 | y :: l,x=>if y<x then y :: ins l x else if y=x then y :: l else x :: y :: l
def asc (l:List Int):List Int:=l.foldl ins []
theorem FI {l:List Int} {x y:Int}:y∈ins l x↔y=x∨y∈l:=by
 induction l with
 | nil=>simp [ins]
 | cons z l ih =>
  rw [ins]
  split
  ·simp only [List.mem_cons,ih]
   constructor
   ·rintro (h|h|h) <;> simp [h]
   ·rintro (h|h|h) <;> simp [h]
  ·split
   ·rename_i h
    subst h
    simp only [List.mem_cons]
    constructor
    ·rintro (h|h) <;> simp [h]
    ·rintro (h|h|h) <;> simp [h]
   ·simp
def Asc (l:List Int):Prop:=l.Pairwise (·<·)
theorem I9 {l:List Int} {x:Int} (h:Asc l):Asc (ins l x):=by
 induction l with
 | nil=>simp [ins,Asc]
 | cons z l ih =>
  unfold Asc at *
  rw [List.pairwise_cons] at h
  rw [ins]
  split
  ·rw [List.pairwise_cons]
   refine ⟨fun y hy=>?_,ih h.2⟩
   rcases FI.1 hy with rfl|hy
   ·assumption
   ·exact h.1 y hy
  ·split
   ·rw [List.pairwise_cons];exact h
   ·rw [List.pairwise_cons]
    refine ⟨fun y hy=>?_,List.pairwise_cons.2 h⟩
    rcases List.mem_cons.1 hy with rfl|hy
    ·omega
    ·have:=h.1 y hy;omega
theorem zG {l:List Int}:∀{l0:List Int},Asc l0→Asc (l.foldl ins l0)/\∀y,y∈l.foldl ins l0↔y∈l0∨y∈l:=by
 induction l with
 | nil=>intro l0 h;exact ⟨h,by simp⟩
 | cons x l ih =>
  intro l0 h
  obtain ⟨h1,h2⟩:=ih (I9 (x:=x) h)
  refine ⟨h1,fun y=>?_⟩
  rw [List.foldl_cons,h2,FI,List.mem_cons]
  constructor
  ·rintro ((h|h)|h) <;> simp [h]
  ·rintro (h|h|h) <;> simp [h]
theorem AY (l:List Int):Asc (asc l):=(zG (l:=l) (l0:=[]) (by simp [Asc])).1
theorem wQ {l:List Int} {y:Int}:y∈asc l↔y∈l:=by rw [asc,(zG (l:=l) (l0:=[]) (by simp [Asc])).2];simp
theorem sZ (l:List Int) (x:Int):asc (l++[x])=ins (asc l) x:=by simp [asc]
theorem sD (l:List Int) (x:Int):(ins l x).length<=l.length+1:=by
 induction l with
 | nil=>simp [ins]
 | cons z l ih =>
  rw [ins]
  split
  ·simp;omega
  ·split <;> simp
theorem sF (l:List Int):(asc l).length<=l.length:=by
 have:∀l0:List Int,(l.foldl ins l0).length<=l0.length+l.length:=by
  induction l with
  | nil=>intro l0;simp
  | cons x l ih=>intro l0;have h1:=ih (ins l0 x);have:=sD l0 x;simp only [List.foldl_cons,List.length_cons];omega
 simpa [asc] using this []
theorem si:∀{l m:List Int},Asc l→Asc m→(∀y,y∈l↔y∈m)→l=m
 | [],[],_,_,_=>rfl
 | [],y :: m,_,_,h=>by have:=(h y).2 (by simp);simp at this
 | x :: l,[],_,_,h=>by have:=(h x).1 (by simp);simp at this
 | x :: l,y :: m,h1,h2,h=>by
  unfold Asc at *
  rw [List.pairwise_cons] at h1 h2
  have hxy:x=y:=by
   have a:=(h x).1 (by simp)
   have b:=(h y).2 (by simp)
   rcases List.mem_cons.1 a with a|a
   ·exact a
   ·rcases List.mem_cons.1 b with b|b
    ·exact b.symm
    ·have:=h1.1 y b
     have:=h2.1 x a
     omega
  subst hxy
  rw [si (l:=l) (m:=m) h1.2 h2.2 fun z=>?_]
  constructor
  ·intro hz
   have:=(h z).1 (by simp [hz])
   rcases List.mem_cons.1 this with rfl|this
   ·have:=h1.1 z hz;omega
   ·exact this
  ·intro hz
   have:=(h z).2 (by simp [hz])
   rcases List.mem_cons.1 this with rfl|this
   ·have:=h2.1 z hz;omega
   ·exact this
theorem ES {l m:List Int} (hp:l.Perm m) (hs:l.Pairwise (·<=·)) (hn:m.Nodup):l=asc m:=by
 have hn':l.Pairwise (·≠·):=hp.nodup_iff.2 hn
 refine si ?_ (AY _) fun y=>by rw [wQ];exact hp.mem_iff
 unfold Asc
 exact (hs.and hn').imp fun ⟨a,b⟩=>by omega
theorem GH {l m:List Int} (h:∀y,y∈l↔y∈m):asc l=asc m:=si (AY _) (AY _) fun y=>by rw [wQ,wQ];exact h y
/-! ### the sources of a node -/
def jV (d:Dev) (t r k s:Int):Int:=dL d (bE d t ((r+2) % 4) s) r k
def lh (x:Int):List Int:=if 0<=x then [x] else []
theorem rJ {x y:Int}:y∈lh x↔y=x/\0<=x:=by unfold lh;split <;> simp [*]
def vG (d:Dev) (pin k:Int):Bool:=!(decide (d.T>1) && decide ((k+pin) % 2=1))
def wT (d:Dev) (dir track r k s:Int):Bool:=decide (r≠(dir+2) % 4) && ((decide (k=track) || decide (k=(track+1) % d.T)) && decide (s=bV k))
def lm (d:Dev) (pin r k s:Int):Bool:=if 7<=pin then wT d ((pin - 7) / d.T) ((pin - 7) % d.T) r k s else vG d pin k
def kS (d:Dev) (t pin r k s:Int):List Int:=if lm d pin r k s=true then lh (jV d t r k s) else []
def fO (d:Dev) (t pin r k:Int) (s:Nat):List Int:=(List.range s).flatMap fun (j:Nat)=>kS d t pin r k ((j:Int)+1)
def iG (d:Dev) (t pin r:Int) (k:Nat):List Int:=(List.range k).flatMap fun (j:Nat)=>fO d t pin r (j:Int) (bV (j:Int)).toNat
def fH (d:Dev) (t pin:Int) (r:Nat):List Int:=(List.range r).flatMap fun (j:Nat)=>iG d t pin (j:Int) d.T.toNat
def gD (d:Dev) (t:Int):List Int:=if dn (bA d t)>1 then [fZ d t 0,fZ d t 1] else [fZ d t 0]
def gI (d:Dev) (t pin:Int):List Int:=(if 7<=pin then gD d t else [])++fH d t pin 4
def jr (d:Dev) (n:Int):List Int:=if bU d n=true/\¬(n % aM d=5∨n % aM d=6) then asc (gI d (n / aM d) (n % aM d)) else []
theorem nV {d:Dev} {t r k s:Int} (_hd:bL d=true) (h:0<=jV d t r k s) :
  bM d (bE d t ((r+2) % 4) s)=true/\(0<=r/\r<=3)/\(0<=k/\k<d.T)/\0<=bE d (bE d t ((r+2) % 4) s) r (bV k)/\jV d t r k s=bE d t ((r+2) % 4) s * aM d+(7+r * d.T+k):=by
 unfold jV at h ⊢
 unfold dL at h ⊢
 split at h
 ·rename_i hc
  rw [if_pos hc]
  exact ⟨hc.1,hc.2.1,hc.2.2.1,hc.2.2.2,by omega⟩
 ·omega
theorem lu {d:Dev} {t r k s:Int} (hd:bL d=true) (h:0<=jV d t r k s):jV d t r k s / aM d=bE d t ((r+2) % 4) s/\jV d t r k s % aM d=7+r * d.T+k/\7<=7+r * d.T+k:=by
 obtain ⟨h1,⟨r0,r1⟩,⟨k0,k1⟩,_,e⟩:=nV hd h
 have hT:=ah hd
 have hm:=jo r0 r1 (show 0<=d.T by omega) (Int.le_refl d.T)
 have:=oQ (b:=aM d) e (by omega) (by unfold aM;omega)
 exact ⟨this.1,this.2,by omega⟩
theorem II {T r k r' k':Int} (k0:0<=k) (k1:k<T) (k0':0<=k') (k1':k'<T) (e:7+r * T+k=7+r' * T+k'):r=r'/\k=k':=by
 have h1:=oQ (a:=r * T+k) rfl k0 k1
 have h2:=oQ (a:=r' * T+k') rfl k0' k1'
 have e':r * T+k=r' * T+k':=by omega
 rw [e'] at h1
 exact ⟨h1.1.symm.trans h2.1,h1.2.symm.trans h2.2⟩
theorem j4 {d:Dev} {t pin r k s y:Int}:y∈kS d t pin r k s↔lm d pin r k s=true/\y=jV d t r k s/\0<=jV d t r k s:=by
 unfold kS
 split
 ·rename_i h;rw [rJ];simp [h]
 ·rename_i h;simp [h]
theorem mg {d:Dev} {t pin r k y:Int} {s:Nat}:y∈fO d t pin r k s↔∃j,j<s/\y∈kS d t pin r k ((j:Int)+1):=by simp [fO]
theorem rM {d:Dev} {t pin r y:Int} {k:Nat}:y∈iG d t pin r k↔∃j,j<k/\y∈fO d t pin r (j:Int) (bV (j:Int)).toNat:=by simp [iG]
theorem GI {d:Dev} {t pin y:Int} {r:Nat}:y∈fH d t pin r↔∃j,j<r/\y∈iG d t pin (j:Int) d.T.toNat:=by simp [fH]
theorem sj {d:Dev} {t pin y:Int} (_hd:bL d=true):y∈fH d t pin 4↔∃r k s:Int,(0<=r/\r<=3)/\(0<=k/\k<d.T)/\(1<=s/\s<=bV k)/\lm d pin r k s=true/\y=jV d t r k s/\0<=y:=by
 rw [GI]
 constructor
 ·rintro ⟨r,hr,h⟩
  obtain ⟨k,hk,h⟩:=rM.1 h
  obtain ⟨s,hs,h⟩:=mg.1 h
  obtain ⟨h1,h2,h3⟩:=j4.1 h
  exact ⟨r,k,(s:Int)+1,by omega,by omega,by omega,h1,h2,by omega⟩
 ·rintro ⟨r,k,s,hr,hk,hs,h1,h2,h3⟩
  refine ⟨r.toNat,by omega,rM.2 ⟨k.toNat,by omega,mg.2 ⟨(s - 1).toNat,by rw [show ((k.toNat:Nat):Int)=k by omega];omega,j4.2 ?_⟩⟩⟩
  rw [show ((r.toNat:Nat):Int)=r by omega,show ((k.toNat:Nat):Int)=k by omega,show (((s - 1).toNat:Nat):Int)+1=s by omega]
  exact ⟨h1,h2,by omega⟩
theorem CP (d:Dev) (t pin r k s:Int):(kS d t pin r k s).Nodup:=by
 unfold kS lh
 split
 ·split <;> simp
 ·simp
theorem xM (n:Nat):(List.range n).Pairwise (·≠·):=List.nodup_range
theorem CQ (d:Dev) (hd:bL d=true) (t pin:Int):(fH d t pin 4).Nodup:=by
 have hk:∀r k:Int,0<=r/\r<=3→∀s:Nat,(fO d t pin r k s).Nodup:=by
  intro r k hr s
  unfold List.Nodup fO
  rw [List.pairwise_flatMap]
  refine ⟨fun a _=>CP _ _ _ _ _ _,(xM _).imp ?_⟩
  intro a b hab x hx y hy e
  obtain ⟨_,rfl,h1⟩:=j4.1 hx
  obtain ⟨_,rfl,h2⟩:=j4.1 hy
  have e1:=(lu hd h1).1
  have e2:=(lu hd h2).1
  rw [e,e2] at e1
  have g1:=(aV.1 (nV hd h1).1).2.1
  have g2:=(aV.1 (nV hd h2).1).2.1
  have:=IG hd (by omega) (by omega) g2 g1 e1
  omega
 have hr:∀r:Int,0<=r/\r<=3→(iG d t pin r d.T.toNat).Nodup:=by
  intro r hr
  unfold List.Nodup iG
  rw [List.pairwise_flatMap]
  refine ⟨fun a _=>hk _ _ hr _,(xM _).imp ?_⟩
  intro a b hab x hx y hy e
  obtain ⟨_,_,hx⟩:=mg.1 hx
  obtain ⟨_,_,hy⟩:=mg.1 hy
  obtain ⟨_,rfl,h1⟩:=j4.1 hx
  obtain ⟨_,rfl,h2⟩:=j4.1 hy
  have e1:=(lu hd h1).2.1
  have e2:=(lu hd h2).2.1
  rw [e,e2] at e1
  have g1:=(nV hd h1).2.2.1
  have g2:=(nV hd h2).2.2.1
  have:=(II g2.1 g2.2 g1.1 g1.2 e1).2
  omega
 unfold List.Nodup fH
 rw [List.pairwise_flatMap]
 refine ⟨fun a ha=>hr _ (by have:=List.mem_range.1 ha;omega),(xM _).imp ?_⟩
 intro a b hab x hx y hy e
 obtain ⟨_,_,hx⟩:=rM.1 hx
 obtain ⟨_,_,hy⟩:=rM.1 hy
 obtain ⟨_,_,hx⟩:=mg.1 hx
 obtain ⟨_,_,hy⟩:=mg.1 hy
 obtain ⟨_,rfl,h1⟩:=j4.1 hx
 obtain ⟨_,rfl,h2⟩:=j4.1 hy
 have e1:=(lu hd h1).2.1
 have e2:=(lu hd h2).2.1
 rw [e,e2] at e1
 have g1:=(nV hd h1).2.2.1
 have g2:=(nV hd h2).2.2.1
 have:=(II g2.1 g2.2 g1.1 g1.2 e1).1
 omega
theorem gy (d:Dev) (t:Int):dn (bA d t)=1∨dn (bA d t)=2:=by
 rcases dm d t with h|h|h <;> rw [h] <;> simp [dn]
theorem zH (d:Dev) (t:Int):1<=mI (bA d t)/\mI (bA d t)<=5:=by
 rcases dm d t with h|h|h <;> rw [h] <;> simp [mI]
theorem zI {d:Dev} {t p:Int} (ht:bM d t=true) (h0:0<=p) (h1:p<dn (bA d t)):fZ d t p=t * aM d+5+p:=by rw [fZ,if_pos ⟨ht,h0,h1⟩]
theorem nH {d:Dev} {t p:Int} (ht:bM d t=true) (h0:0<=p) (h1:p<dn (bA d t)):fZ d t p / aM d=t/\fZ d t p % aM d=5+p/\0<=fZ d t p:=by
 have hp:=dB (aV.1 ht).1
 have:=gy d t
 rw [zI ht h0 h1]
 have:=oQ (a:=t * aM d+5+p) (b:=aM d) (q:=t) (r:=5+p) (by omega) (by omega) (by omega)
 have h3:=Int.mul_nonneg (aV.1 ht).2.1 (show 0<=aM d by omega)
 exact ⟨this.1,this.2,by omega⟩
theorem su {d:Dev} {t y:Int}:y∈gD d t↔∃p,(0<=p/\p<dn (bA d t))/\y=fZ d t p:=by
 unfold gD
 have:=gy d t
 split
 ·simp only [List.mem_cons,List.not_mem_nil,or_false]
  constructor
  ·rintro (rfl|rfl)
   ·exact ⟨0,by omega,rfl⟩
   ·exact ⟨1,by omega,rfl⟩
  ·rintro ⟨p,hp,rfl⟩
   have:p=0∨p=1:=by omega
   rcases this with rfl|rfl <;> simp
 ·simp only [List.mem_cons,List.not_mem_nil,or_false]
  constructor
  ·rintro rfl
   exact ⟨0,by omega,rfl⟩
  ·rintro ⟨p,hp,rfl⟩
   have:p=0:=by omega
   rw [this]
theorem CR {d:Dev} {t pin:Int} (ht:bM d t=true):(gI d t pin).Nodup:=by
 have hd:=(aV.1 ht).1
 unfold gI List.Nodup
 rw [List.pairwise_append]
 have:=gy d t
 refine ⟨?_,CQ d hd t pin,?_⟩
 ·split
  ·unfold gD
   split
   ·have e0:=(nH ht (p:=0) (by omega) (by omega)).2.1
    have e1:=(nH ht (p:=1) (by omega) (by omega)).2.1
    simp only [List.pairwise_cons,List.mem_singleton,List.not_mem_nil,List.Pairwise.nil,and_true]
    refine ⟨?_,by simp⟩
    rintro a rfl e
    rw [e,e1] at e0
    omega
   ·simp
  ·simp
 ·intro x hx y hy e
  split at hx
  ·obtain ⟨p,hp,rfl⟩:=su.1 hx
   obtain ⟨r,k,s,_,_,_,_,h1,h2⟩:=(sj hd).1 hy
   have e1:=(nH ht hp.1 hp.2).2.1
   have e2:=(lu hd (show 0<=jV d t r k s by omega))
   rw [e,h1,e2.2.1] at e1
   omega
  ·simp at hx
theorem vW {d:Dev} {n:Int} {l:List Int} (h:bU d n=true) (hn:¬(n % aM d=5∨n % aM d=6)) (hp:l.Perm (gI d (n / aM d) (n % aM d))) (hs:l.Pairwise (·<=·)):l=jr d n:=by
 have h':=h
 unfold bU at h'
 rw [Bool.and_eq_true] at h'
 rw [jr,if_pos ⟨h,hn⟩]
 exact ES hp hs (CR (iK h'.1))
theorem CS (k:Int) (w:World) :
  Calls Tryz.prog 193 #[.int .i64 k] w fun e w'=>e = .returned (.int .i64 (mI k))/\w=w':=by
 by_cases h0:k=0
 ·subst h0
  go_enter Tryz.func193,Tryz.ntmps193
  go_wp2
  go_ret
  exact ⟨rfl,rfl⟩
 by_cases h1:k=1
 ·subst h1
  go_enter Tryz.func193,Tryz.ntmps193
  go_wp2
  go_ret
  exact ⟨rfl,rfl⟩
 by_cases h2:k=2
 ·subst h2
  go_enter Tryz.func193,Tryz.ntmps193
  go_wp2
  go_ret
  exact ⟨rfl,rfl⟩
 have e0:(k==0)=false:=by simpa using h0
 have e1:(k==1)=false:=by simpa using h1
 have e2:(k==2)=false:=by simpa using h2
 go_enter Tryz.func193,Tryz.ntmps193
 go_wp2
 go_ret
 exact ⟨ag (by simp [mI,h0,h1,h2]),rfl⟩
theorem CU (k:Int) (w:World) :
  Calls Tryz.prog 222 #[.int .i64 k] w fun e w'=>e = .returned (.int .i64 (mI k))/\w=w':=by
 by_cases h0:k=0
 ·subst h0
  go_enter Tryz.func222,Tryz.ntmps222
  go_wp2
  go_ret
  exact ⟨rfl,rfl⟩
 by_cases h1:k=1
 ·subst h1
  go_enter Tryz.func222,Tryz.ntmps222
  go_wp2
  go_ret
  exact ⟨rfl,rfl⟩
 by_cases h2:k=2
 ·subst h2
  go_enter Tryz.func222,Tryz.ntmps222
  go_wp2
  go_ret
  exact ⟨rfl,rfl⟩
 have e0:(k==0)=false:=by simpa using h0
 have e1:(k==1)=false:=by simpa using h1
 have e2:(k==2)=false:=by simpa using h2
 go_enter Tryz.func222,Tryz.ntmps222
 go_wp2
 go_ret
 exact ⟨ag (by simp [mI,h0,h1,h2]),rfl⟩
theorem uQ (k:Int) (w:World) :
  Calls Tryz.prog 194 #[.int .i64 k] w fun e w'=>e = .returned (.int .i64 (dn k))/\w=w':=by
 by_cases h0:k=0
 ·subst h0
  go_enter Tryz.func194,Tryz.ntmps194
  go_wp2
  go_ret
  exact ⟨rfl,rfl⟩
 by_cases h1:k=1
 ·subst h1
  go_enter Tryz.func194,Tryz.ntmps194
  go_wp2
  go_ret
  exact ⟨rfl,rfl⟩
 by_cases h2:k=2
 ·subst h2
  go_enter Tryz.func194,Tryz.ntmps194
  go_wp2
  go_ret
  exact ⟨rfl,rfl⟩
 have e0:(k==0)=false:=by simpa using h0
 have e1:(k==1)=false:=by simpa using h1
 have e2:(k==2)=false:=by simpa using h2
 go_enter Tryz.func194,Tryz.ntmps194
 go_wp2
 go_ret
 exact ⟨ag (by simp [dn,h0,h1,h2]),rfl⟩
theorem qA (k:Int) (w:World) :
  Calls Tryz.prog 187 #[.int .i64 k] w fun e w'=>e = .returned (.int .i64 (dn k))/\w=w':=by
 by_cases h0:k=0
 ·subst h0
  go_enter Tryz.func187,Tryz.ntmps187
  go_wp2
  go_ret
  exact ⟨rfl,rfl⟩
 by_cases h1:k=1
 ·subst h1
  go_enter Tryz.func187,Tryz.ntmps187
  go_wp2
  go_ret
  exact ⟨rfl,rfl⟩
 by_cases h2:k=2
 ·subst h2
  go_enter Tryz.func187,Tryz.ntmps187
  go_wp2
  go_ret
  exact ⟨rfl,rfl⟩
 have e0:(k==0)=false:=by simpa using h0
 have e1:(k==1)=false:=by simpa using h1
 have e2:(k==2)=false:=by simpa using h2
 go_enter Tryz.func187,Tryz.ntmps187
 go_wp2
 go_ret
 exact ⟨ag (by simp [dn,h0,h1,h2]),rfl⟩
theorem dX (k:Int) (w:World) (h0:0<=k) (h1:k<=1099511627776) :
  Calls Tryz.prog 197 #[.int .i64 k] w fun e w'=>e = .returned (.int .i64 (bV k))/\w=w':=by
 unfold bV
 go_enter Tryz.func197,Tryz.ntmps197
 go_wp2
 go_ret
 exact ⟨rfl,rfl⟩
theorem ET (d:Dev) (t:Int) (w:World) :
  Calls Tryz.prog 232 #[.agg #[.int .i64 d.W,.int .i64 d.H,.int .i64 d.T,.int .i64 d.R],.int .i64 t] w fun e w'=>e = .returned (.bool (bM d t))/\Below w.heap.size w w':=by
 go_enter Tryz.func232,Tryz.ntmps232
 go_wp2_with fail
 refine (fM d _).mono ?_
 rintro e w1 ⟨rfl,b1⟩
 have B1:=Hd (aA (aB (Below.refl _ _) _) b1)
 obtain ⟨hcc,hff⟩:=aQ b1
 clear b1
 cases hd:bL d with
 | false =>
  have HD:=Hd hd
  clear hd
  go_wp2_with fail
  go_ret
  exact ⟨aI (by simp [bM,HD.out]),B1.out⟩
 | true =>
  obtain ⟨hN,hN1,hN2⟩:=bO hd
  have HD:=Hd hd
  have HN:=Hd hN
  clear hd
  go_wp2_with (go_at_call 116;refine (aN _ _ _ _).mono ?_;rintro e w' ⟨rfl,rfl⟩)
  go_ret
  refine ⟨aI ?_,B1.out⟩
  rw [Bool.eq_iff_iff,aa,aV,HD.out,HN.out]
  simp only [true_and]
  omega
theorem bW {n lo hi:Int} {b:Bool} (h:inR n lo hi=b) (w:World):Calls Tryz.prog 116 #[.int .i64 n,.int .i64 lo,.int .i64 hi] w fun e w'=>e = .returned (.bool b)/\w=w':=by
 have:=aN n lo hi w
 rwa [h] at this
theorem KJ {d:Dev} {t r s:Int} (ht:bM d t=true) (h0:0<=s) (h1:s<=6):-6<=stX d t r s/\stX d t r s<=12/\-6<=stY d t r s/\stY d t r s<=12:=by
 obtain ⟨a,b,c,e,_⟩:=pz ht
 have:=ah (aV.1 ht).1
 unfold stX stY
 refine ⟨?_,?_,?_,?_⟩ <;> repeat' split
 all_goals omega
theorem AZ (d:Dev) (t r s:Int) (w:World) (ht:bM d t=true) (h0:0<=s) (h1:s<=6) :
  Calls Tryz.prog 196 #[.agg #[.int .i64 d.W,.int .i64 d.H,.int .i64 d.T,.int .i64 d.R],.int .i64 t,.int .i64 r,.int .i64 s] w fun e w'=>e = .returned (.int .i64 (bE d t r s))/\Below w.heap.size w w':=by
 have hd:=(aV.1 ht).1
 have ht0:=(aV.1 ht).2.1
 have ht1:=(aV.1 ht).2.2
 have hWH:=dW hd
 obtain ⟨hw1,hw2,hh1,hh2,_⟩:=ah hd
 obtain ⟨x0,x1,y0,y1,-⟩:=pz ht
 have hst:=KJ (r:=r) ht h0 h1
 have e0:¬d.W=0:=by omega
 have e1:t.tmod d.W=t % d.W:=Int.tmod_eq_emod_of_nonneg ht0
 have e2:IntKind.i64.wrap (t.tdiv d.W)=t / d.W:=IntWalk.i64_quo _ _ ⟨ht0,by omega,by omega⟩
 have HS:=Hd (show nG d t r s=(inR (stX d t r s) 0 (d.W - 1) && inR (stY d t r s) 0 (d.H - 1)) from rfl)
 have HT:=Hd (show bE d t r s=if nG d t r s=true then stY d t r s * d.W+stX d t r s else -1 from rfl)
 have HX:Hid (stX d t r s=if r=0 then t % d.W+s else if r=2 then t % d.W - s else t % d.W):=rfl
 have HY:Hid (stY d t r s=if r=1 then t / d.W+s else if r=0 then t / d.W else if r=2 then t / d.W else t / d.W - s):=rfl
 have HM:=Hd (fun (h:0<=stY d t r s/\stY d t r s<=d.H - 1)=>jo h.1 (show stY d t r s<=5 by omega) (show 0<=d.W by omega) (show d.W<=6 by omega))
 generalize stX d t r s=X at *
 generalize stY d t r s=Y at *
 generalize bE d t r s=P at *
 generalize nG d t r s=B at *
 clear ht hd
 have hcase:r=0∨r=1∨r=2∨(¬r=0/\¬r=1/\¬r=2):=by omega
 have hX1:(r=0→X=t % d.W+s)/\(r=2→X=t % d.W - s)/\(¬r=0/\¬r=2→X=t % d.W):=by
  rw [HX.out]
  refine ⟨fun h=>if_pos h,fun h=>by rw [if_neg (by omega),if_pos h],fun h=>by rw [if_neg h.1,if_neg h.2]⟩
 have hY1:(r=1→Y=t / d.W+s)/\(r=0∨r=2→Y=t / d.W)/\(¬r=0/\¬r=1/\¬r=2→Y=t / d.W - s):=by
  rw [HY.out]
  refine ⟨fun h=>if_pos h,fun h=>?_,fun h=>by rw [if_neg h.2.1,if_neg h.1,if_neg h.2.2]⟩
  rcases h with h|h
  ·rw [if_neg (by omega),if_pos h]
  ·rw [if_neg (by omega),if_neg (by omega),if_pos h]
 clear HX HY
 rcases hcase with h|h|h|⟨g0,g1,g2⟩
 ·obtain rfl:=hX1.1 h
  obtain rfl:=hY1.2.1 (.inl h)
  subst h
  clear hX1 hY1
  go_enter Tryz.func196,Tryz.ntmps196
  go_wp2_with fail
  go_quiet (fail)
  clear e1 e2
  cases hX:inR (t % d.W+s) 0 (d.W - 1) with
  | false =>
   have HXX:=Hd hX
   clear hX
   go_wp2_with (go_at_call 116;refine (bW HXX.out _).mono ?_;rintro e w' ⟨rfl,rfl⟩)
   go_ret
   exact ⟨ag (by rw [HT.out,HS.out,HXX.out];rfl),ai (aB (Below.refl _ _) _) _⟩
  | true =>
   have HXX:=Hd hX
   clear hX
   cases hY:inR (t / d.W) 0 (d.H - 1) with
   | false =>
    have HYY:=Hd hY
    clear hY
    go_wp2_with (go_at_call 116;(first|((with_reducible refine (bW HXX.out _).mono ?_);rintro e w' ⟨rfl,rfl⟩)|((with_reducible refine (bW HYY.out _).mono ?_);rintro e w' ⟨rfl,rfl⟩)))
    go_ret
    exact ⟨ag (by rw [HT.out,HS.out,HXX.out,HYY.out];rfl),ai (aB (Below.refl _ _) _) _⟩
   | true =>
    have HYY:=Hd hY
    have hM:=HM.out (aa.1 hY)
    have hx2:=(aa.1 HXX.out)
    clear hY
    go_wp2_with (go_at_call 116;(first|((with_reducible refine (bW HXX.out _).mono ?_);rintro e w' ⟨rfl,rfl⟩)|((with_reducible refine (bW HYY.out _).mono ?_);rintro e w' ⟨rfl,rfl⟩)))
    go_ret
    exact ⟨ag (by rw [HT.out,HS.out,HXX.out,HYY.out];first|rfl|(simp;done)|(simp;omega)),ai (aB (Below.refl _ _) _) _⟩
 ·obtain rfl:=hX1.2.2 ⟨by omega,by omega⟩
  obtain rfl:=hY1.1 h
  subst h
  clear hX1 hY1
  go_enter Tryz.func196,Tryz.ntmps196
  go_wp2_with fail
  go_quiet (fail)
  clear e1 e2
  cases hX:inR (t % d.W) 0 (d.W - 1) with
  | false =>
   have HXX:=Hd hX
   clear hX
   go_wp2_with (go_at_call 116;refine (bW HXX.out _).mono ?_;rintro e w' ⟨rfl,rfl⟩)
   go_ret
   exact ⟨ag (by rw [HT.out,HS.out,HXX.out];rfl),ai (aB (Below.refl _ _) _) _⟩
  | true =>
   have HXX:=Hd hX
   clear hX
   cases hY:inR (t / d.W+s) 0 (d.H - 1) with
   | false =>
    have HYY:=Hd hY
    clear hY
    go_wp2_with (go_at_call 116;(first|((with_reducible refine (bW HXX.out _).mono ?_);rintro e w' ⟨rfl,rfl⟩)|((with_reducible refine (bW HYY.out _).mono ?_);rintro e w' ⟨rfl,rfl⟩)))
    go_ret
    exact ⟨ag (by rw [HT.out,HS.out,HXX.out,HYY.out];rfl),ai (aB (Below.refl _ _) _) _⟩
   | true =>
    have HYY:=Hd hY
    have hM:=HM.out (aa.1 hY)
    have hx2:=(aa.1 HXX.out)
    clear hY
    go_wp2_with (go_at_call 116;(first|((with_reducible refine (bW HXX.out _).mono ?_);rintro e w' ⟨rfl,rfl⟩)|((with_reducible refine (bW HYY.out _).mono ?_);rintro e w' ⟨rfl,rfl⟩)))
    go_ret
    exact ⟨ag (by rw [HT.out,HS.out,HXX.out,HYY.out];first|rfl|(simp;done)|(simp;omega)),ai (aB (Below.refl _ _) _) _⟩
 ·obtain rfl:=hX1.2.1 h
  obtain rfl:=hY1.2.1 (.inr h)
  subst h
  clear hX1 hY1
  go_enter Tryz.func196,Tryz.ntmps196
  go_wp2_with fail
  go_quiet (fail)
  clear e1 e2
  cases hX:inR (t % d.W - s) 0 (d.W - 1) with
  | false =>
   have HXX:=Hd hX
   clear hX
   go_wp2_with (go_at_call 116;refine (bW HXX.out _).mono ?_;rintro e w' ⟨rfl,rfl⟩)
   go_ret
   exact ⟨ag (by rw [HT.out,HS.out,HXX.out];rfl),ai (aB (Below.refl _ _) _) _⟩
  | true =>
   have HXX:=Hd hX
   clear hX
   cases hY:inR (t / d.W) 0 (d.H - 1) with
   | false =>
    have HYY:=Hd hY
    clear hY
    go_wp2_with (go_at_call 116;(first|((with_reducible refine (bW HXX.out _).mono ?_);rintro e w' ⟨rfl,rfl⟩)|((with_reducible refine (bW HYY.out _).mono ?_);rintro e w' ⟨rfl,rfl⟩)))
    go_ret
    exact ⟨ag (by rw [HT.out,HS.out,HXX.out,HYY.out];rfl),ai (aB (Below.refl _ _) _) _⟩
   | true =>
    have HYY:=Hd hY
    have hM:=HM.out (aa.1 hY)
    have hx2:=(aa.1 HXX.out)
    clear hY
    go_wp2_with (go_at_call 116;(first|((with_reducible refine (bW HXX.out _).mono ?_);rintro e w' ⟨rfl,rfl⟩)|((with_reducible refine (bW HYY.out _).mono ?_);rintro e w' ⟨rfl,rfl⟩)))
    go_ret
    exact ⟨ag (by rw [HT.out,HS.out,HXX.out,HYY.out];first|rfl|(simp;done)|(simp;omega)),ai (aB (Below.refl _ _) _) _⟩
 ·obtain rfl:=hX1.2.2 ⟨g0,g2⟩
  obtain rfl:=hY1.2.2 ⟨g0,g1,g2⟩
  clear hX1 hY1
  have q0:(r==0)=false:=by simpa using g0
  have q1:(r==1)=false:=by simpa using g1
  have q2:(r==2)=false:=by simpa using g2
  clear g0 g1 g2
  go_enter Tryz.func196,Tryz.ntmps196
  go_wp2_with fail
  go_quiet (fail)
  clear e1 e2
  cases hX:inR (t % d.W) 0 (d.W - 1) with
  | false =>
   have HXX:=Hd hX
   clear hX
   go_wp2_with (go_at_call 116;refine (bW HXX.out _).mono ?_;rintro e w' ⟨rfl,rfl⟩)
   go_ret
   exact ⟨ag (by rw [HT.out,HS.out,HXX.out];rfl),ai (aB (Below.refl _ _) _) _⟩
  | true =>
   have HXX:=Hd hX
   clear hX
   cases hY:inR (t / d.W - s) 0 (d.H - 1) with
   | false =>
    have HYY:=Hd hY
    clear hY
    go_wp2_with (go_at_call 116;(first|((with_reducible refine (bW HXX.out _).mono ?_);rintro e w' ⟨rfl,rfl⟩)|((with_reducible refine (bW HYY.out _).mono ?_);rintro e w' ⟨rfl,rfl⟩)))
    go_ret
    exact ⟨ag (by rw [HT.out,HS.out,HXX.out,HYY.out];rfl),ai (aB (Below.refl _ _) _) _⟩
   | true =>
    have HYY:=Hd hY
    have hM:=HM.out (aa.1 hY)
    have hx2:=(aa.1 HXX.out)
    clear hY
    go_wp2_with (go_at_call 116;(first|((with_reducible refine (bW HXX.out _).mono ?_);rintro e w' ⟨rfl,rfl⟩)|((with_reducible refine (bW HYY.out _).mono ?_);rintro e w' ⟨rfl,rfl⟩)))
    go_ret
    exact ⟨ag (by rw [HT.out,HS.out,HXX.out,HYY.out];first|rfl|(simp;done)|(simp;omega)),ai (aB (Below.refl _ _) _) _⟩
theorem eu (d:Dev) (w:World) (h0:0<=d.T) (h1:d.T<=1099511627776) :
  Calls Tryz.prog 76 #[.agg #[.int .i64 d.W,.int .i64 d.H,.int .i64 d.T,.int .i64 d.R]] w fun e w'=>e = .returned (.int .i64 (aM d))/\Below w.heap.size w w':=by
 unfold aM
 go_enter Tryz.func76,Tryz.ntmps76
 go_wp2
 go_ret
 exact ⟨rfl,aB (Below.refl _ _) _⟩
theorem nI (d:Dev) (w:World) (hd:bL d=true) :
  Calls Tryz.prog 140 #[.agg #[.int .i64 d.W,.int .i64 d.H,.int .i64 d.T,.int .i64 d.R]] w fun e w'=>e = .returned (.int .i64 (az d))/\Below w.heap.size w w':=by
 have hT:=ah hd
 have hWH:=dW hd
 have hp:=dB hd
 have hn:=dC hd
 have HN:=Hd (show az d=d.W * d.H * aM d from rfl)
 rw [HN.out] at hn
 have hD:Below (w.alloc (.cells #[.int .i64 d.W,.int .i64 d.H,.int .i64 d.T,.int .i64 d.R] 25)).heap.size (w.alloc (.cells #[.int .i64 d.W,.int .i64 d.H,.int .i64 d.T,.int .i64 d.R] 25)) (w.alloc (.cells #[.int .i64 d.W,.int .i64 d.H,.int .i64 d.T,.int .i64 d.R] 25)):=Below.refl _ _
 go_enter Tryz.func140,Tryz.ntmps140
 go_wp2_with fail
 go_region_held3 (fun w'=>Below (w.alloc (.cells #[.int .i64 d.W,.int .i64 d.H,.int .i64 d.T,.int .i64 d.R] 25)).heap.size (w.alloc (.cells #[.int .i64 d.W,.int .i64 d.H,.int .i64 d.T,.int .i64 d.R] 25)) w'/\∀b o,b<(w.alloc (.cells #[.int .i64 d.W,.int .i64 d.H,.int .i64 d.T,.int .i64 d.R] 25)).heap.size→w'.cell? ⟨b,o,none⟩=(w.alloc (.cells #[.int .i64 d.W,.int .i64 d.H,.int .i64 d.T,.int .i64 d.R] 25)).cell? ⟨b,o,none⟩)
  (first|exact ⟨hD,(aQ hD).1⟩|exact ⟨hD.drew,(aQ hD.drew).1⟩)
  (first
   | (go_at_call 76;(with_reducible refine (eu d _ (by omega) (by omega)).mono ?_);rintro e w2 ⟨rfl,b2⟩;(first|(with_reducible replace hD:=aA hD b2)|(with_reducible replace hD:=aA hD.drew b2));clear b2))
 all_goals
  go_wp2_with fail
  go_ret
  exact ⟨ag (by rw [IntWalk.i64_in (d.W * d.H) (by omega),IntWalk.i64_in _ (by omega),HN.out]),aA (aB (Below.refl _ _) _) hD⟩
theorem fP (d:Dev) (n:Int) (w:World) (hn:cB d n=true) :
  Calls Tryz.prog 117 #[.agg #[.int .i64 d.W,.int .i64 d.H,.int .i64 d.T,.int .i64 d.R],.int .i64 n] w fun e w'=>e = .returned (.tuple #[.int .i64 (n / aM d),.int .i64 (n % aM d)])/\Below w.heap.size w w':=by
 obtain ⟨hd,n0,n1,hq0,hq1,hr0,hr1⟩:=dP hn
 have hT:=ah hd
 have hWH:=dW hd
 have hp:=dB hd
 have e0:¬aM d=0:=by omega
 have e1:n.tmod (aM d)=n % aM d:=Int.tmod_eq_emod_of_nonneg n0
 have e2:IntKind.i64.wrap (n.tdiv (aM d))=n / aM d:=IntWalk.i64_quo _ _ ⟨n0,by omega,by omega⟩
 have hD:Below (w.alloc (.cells #[.int .i64 d.W,.int .i64 d.H,.int .i64 d.T,.int .i64 d.R] 25)).heap.size (w.alloc (.cells #[.int .i64 d.W,.int .i64 d.H,.int .i64 d.T,.int .i64 d.R] 25)) (w.alloc (.cells #[.int .i64 d.W,.int .i64 d.H,.int .i64 d.T,.int .i64 d.R] 25)):=Below.refl _ _
 clear hd hn
 go_enter Tryz.func117,Tryz.ntmps117
 go_wp2_with fail
 go_region_held3 (fun w'=>Below (w.alloc (.cells #[.int .i64 d.W,.int .i64 d.H,.int .i64 d.T,.int .i64 d.R] 25)).heap.size (w.alloc (.cells #[.int .i64 d.W,.int .i64 d.H,.int .i64 d.T,.int .i64 d.R] 25)) w'/\∀b o,b<(w.alloc (.cells #[.int .i64 d.W,.int .i64 d.H,.int .i64 d.T,.int .i64 d.R] 25)).heap.size→w'.cell? ⟨b,o,none⟩=(w.alloc (.cells #[.int .i64 d.W,.int .i64 d.H,.int .i64 d.T,.int .i64 d.R] 25)).cell? ⟨b,o,none⟩)
  (first|exact ⟨hD,(aQ hD).1⟩|exact ⟨hD.drew,(aQ hD.drew).1⟩)
  (first
   | (go_at_call 76;(with_reducible refine (eu d _ (by omega) (by omega)).mono ?_);rintro e w2 ⟨rfl,b2⟩;(first|(with_reducible replace hD:=aA hD b2)|(with_reducible replace hD:=aA hD.drew b2));clear b2))
 all_goals
  go_wp2_with fail
  go_ret2
  exact ⟨rfl,aA (aB (Below.refl _ _) _) hD⟩
theorem xN (d:Dev) (n:Int) (w:World) (hn:cB d n=true) (h7:7<=n % aM d) :
  Calls Tryz.prog 195 #[.agg #[.int .i64 d.W,.int .i64 d.H,.int .i64 d.T,.int .i64 d.R],.int .i64 n] w fun e w'=>e = .returned (.tuple #[.int .i64 (n / aM d),.int .i64 ((n % aM d - 7) / d.T),.int .i64 ((n % aM d - 7) % d.T),.bool true])/\Below w.heap.size w w':=by
 obtain ⟨hd,n0,n1,hq0,hq1,hr0,hr1⟩:=dP hn
 have HN:=Hd hn
 have hT:=ah hd
 have hp:=dB hd
 clear hn
 go_enter Tryz.func195,Tryz.ntmps195
 go_wp2_with fail
 refine (fP d n _ HN.out).mono ?_
 rintro e w1 ⟨rfl,b1⟩
 have hb1:=b1.size
 simp only [World.size_alloc] at hb1
 obtain ⟨hcc,hff⟩:=aQ b1
 have B1:=Hd (aA (aB (Below.refl _ _) _) b1)
 clear b1
 generalize hk:n % aM d=k at *
 generalize hq:n / aM d=q at *
 have HK:=Hd hk
 have HQ:=Hd hq
 clear hk hq HN
 have e0:¬d.T=0:=by omega
 have e1:(k - 7).tmod d.T=(k - 7) % d.T:=Int.tmod_eq_emod_of_nonneg (by omega)
 have e2:IntKind.i64.wrap ((k - 7).tdiv d.T)=(k - 7) / d.T:=IntWalk.i64_quo _ _ ⟨by omega,by omega,by omega⟩
 have e3:IntKind.i64.wrap (k - 7)=k - 7:=IntWalk.i64_in _ (by omega)
 have hh:decide (k≥7)=true:=by simpa using h7
 go_wp2_with fail
 go_quiet (fail)
 go_wp2_with fail
 exact bodyPost_ret (v := .tuple #[.int .i64 q,.int .i64 ((k - 7) / d.T),.int .i64 ((k - 7) % d.T),.bool true]) (by simp [results,Tryz.results195,go_sem]) rfl ⟨by rw [HK.out,HQ.out],ai B1.out _⟩
theorem j5 {d:Dev} {t:Int} {b:Bool} (h:bM d t=b) (w:World):Calls Tryz.prog 232 #[.agg #[.int .i64 d.W,.int .i64 d.H,.int .i64 d.T,.int .i64 d.R],.int .i64 t] w fun e w'=>e = .returned (.bool b)/\Below w.heap.size w w':=by
 have:=ET d t w
 rwa [h] at this
theorem gJ {d:Dev} {t r s p:Int} (h:bE d t r s=p) (ht:bM d t=true) (h0:0<=s) (h1:s<=6) (w:World):Calls Tryz.prog 196 #[.agg #[.int .i64 d.W,.int .i64 d.H,.int .i64 d.T,.int .i64 d.R],.int .i64 t,.int .i64 r,.int .i64 s] w fun e w'=>e = .returned (.int .i64 p)/\Below w.heap.size w w':=by
 have:=AZ d t r s w ht h0 h1
 rwa [h] at this
theorem CV (d:Dev) (t p:Int) (w:World) :
  Calls Tryz.prog 228 #[.agg #[.int .i64 d.W,.int .i64 d.H,.int .i64 d.T,.int .i64 d.R],.int .i64 t,.int .i64 p] w fun e w'=>e = .returned (.int .i64 (fZ d t p))/\Below w.heap.size w w':=by
 have HO:Hid (fZ d t p=if bM d t=true/\0<=p/\p<dn (bA d t) then t * aM d+5+p else -1):=rfl
 go_enter Tryz.func228,Tryz.ntmps228
 go_wp2_with fail
 cases ht:bM d t with
 | false =>
  refine (j5 ht _).mono ?_
  rintro e w1 ⟨rfl,b1⟩
  have B1:=Hd (aA (aB (Below.refl _ _) _) b1)
  have HT:=Hd ht
  clear b1 ht
  go_wp2_with fail
  go_ret
  exact ⟨ag (by rw [HO.out,if_neg (by rw [HT.out];simp)]),B1.out⟩
 | true =>
  refine (j5 ht _).mono ?_
  rintro e w1 ⟨rfl,b1⟩
  have B1:=Hd (aA (aB (Below.refl _ _) _) b1)
  have D1:=Hd b1
  obtain ⟨hcc,hff⟩:=aQ b1
  have hs1:=b1.size
  simp only [World.size_alloc] at hs1
  obtain ⟨hd,ht0,ht1⟩:=aV.1 ht
  have hWH:=dW hd
  have hT:=ah hd
  have hp:=dB hd
  have hop:=gy d t
  have HM:=Hd (jo ht0 (show t<=35 by omega) (show 0<=aM d by omega) hp.2)
  have HT:=Hd ht
  have HD:=Hd hd
  clear b1 ht hd
  go_wp2_with fail
  refine (ik d t _ HD.out ht0 (by omega)).mono ?_
  rintro e w2 ⟨rfl,b2⟩
  have B2:=Hd (aA B1.out b2)
  have D2:=Hd (aA D1.out b2)
  have hs2:=b2.size
  clear b2 hcc hff
  obtain ⟨hcc,hff⟩:=aQ D2.out
  generalize hK:bA d t=K at *
  have HK:=Hd hK
  clear hK
  go_wp2_with (go_at_call 194;refine (uQ _ _).mono ?_;rintro e w' ⟨rfl,rfl⟩)
  generalize hQ:dn K=Q at *
  have HQ:=Hd hQ
  clear hQ
  have e3:IntKind.i64.wrap (Q - 1)=Q - 1:=IntWalk.i64_in _ (by omega)
  cases hin:inR p 0 (Q - 1) with
  | false =>
   have HI:=Hd hin
   clear hin
   go_wp2_with (go_at_call 116;refine (bW HI.out _).mono ?_;rintro e w' ⟨rfl,rfl⟩)
   go_ret
   exact ⟨ag (by rw [HO.out,if_neg];rintro ⟨_,h0,h1⟩;have:=gF.1 HI.out;omega),B2.out⟩
  | true =>
   have HI:=Hd hin
   have hi:=aa.1 hin
   clear hin
   go_wp2_with (go_at_call 116;refine (bW HI.out _).mono ?_;rintro e w' ⟨rfl,rfl⟩)
   refine (eu d _ (by omega) (by omega)).mono ?_
   rintro e w3 ⟨rfl,b3⟩
   have B3:=Hd (aA B2.out b3)
   have hM:=HM.out
   clear b3 hcc hff e3
   go_wp2_with fail
   go_ret
   exact ⟨ag (by rw [HO.out,if_pos ⟨HT.out,by omega,by omega⟩]),B3.out⟩
structure Sub (W:World) where
 v:World
 h:Below W.heap.size W v
theorem eO (W:World):Nonempty (Sub W):=⟨⟨W,Below.refl _ _⟩⟩
theorem cZ (W:World) (x:Sub W) (b o:Nat) (h:b<W.heap.size):x.v.cell? ⟨b,o,none⟩=W.cell? ⟨b,o,none⟩:=(aQ x.h).1 b o h
theorem bB {P:Program} (W:World) {id:Nat} {Q:Exit→Act→World→Prop} {a:Act} {w:World} {l:List Oper} (hm:P.follows .mixedOrders=true) (hB:Region.lexB .any l.toArray=true) (hC:Below W.heap.size W w)
  (h:wpQuiet P l.toArray (fun w'=>∃x:Sub W,w'=x.v) (fun a'=>∀w',(∃x:Sub W,w'=x.v)→Q .normal a' w') l a):(Code.region id l.toArray true).wp P Q a w :=
 wp_region_quiet (C:=fun w'=>∃x:Sub W,w'=x.v) hm hB ⟨⟨_,hC.drew⟩,rfl⟩ (by simpa using h)
theorem au {P:Program} {f:FuncId} {args:Array Value} {W:World} {x:Sub W} {v:Value} (h:Calls P f args x.v fun e w'=>e = .returned v/\Below x.v.heap.size x.v w') :
  Calls P f args x.v fun e w''=>e = .returned v/\∃y:Sub W,w''=y.v :=
 h.mono fun _ w' ⟨he,hb⟩=>⟨he,⟨w',aA x.h hb⟩,rfl⟩
theorem bR {P:Program} {f:FuncId} {args:Array Value} {W:World} {x:Sub W} {v:Value} (h:Calls P f args x.v fun e w'=>e = .returned v/\x.v=w') :
  Calls P f args x.v fun e w''=>e = .returned v/\∃y:Sub W,w''=y.v :=
 h.mono fun _ w' ⟨he,hb⟩=>⟨he,⟨w',hb ▸ x.h⟩,rfl⟩
theorem JA {d:Dev} {t r k:Int} (h:bM d t=false):Hid (¬(bM d t=true/\(0<=r/\r<=3)/\(0<=k/\k<d.T)/\0<=bE d t r (bV k))):=by
 show ¬_
 rw [h];simp
theorem CW (d:Dev) (t r k:Int) (w:World) (ht:bM d t=false) :
  Calls Tryz.prog 226 #[.agg #[.int .i64 d.W,.int .i64 d.H,.int .i64 d.T,.int .i64 d.R],.int .i64 t,.int .i64 r,.int .i64 k] w fun e w'=>e = .returned (.int .i64 (dL d t r k))/\Below w.heap.size w w':=by
 have HO:Hid (dL d t r k=if bM d t=true/\(0<=r/\r<=3)/\(0<=k/\k<d.T)/\0<=bE d t r (bV k) then t * aM d+7+r * d.T+k else -1):=rfl
 have hbad:=JA (r:=r) (k:=k) ht
 have HT:=Hd ht
 have HR:=Hd hbad
 have HK:=HR
 have HS:=HR
 clear ht
 go_enter Tryz.func226,Tryz.ntmps226
 go_wp2_with fail
 have hsub:=eO (w.alloc (.cells #[.int .i64 d.W,.int .i64 d.H,.int .i64 d.T,.int .i64 d.R] 25))
 have hsc:=cZ (w.alloc (.cells #[.int .i64 d.W,.int .i64 d.H,.int .i64 d.T,.int .i64 d.R] 25))
 refine bB (w.alloc (.cells #[.int .i64 d.W,.int .i64 d.H,.int .i64 d.T,.int .i64 d.R] 25)) (by kernel_rfl) (by kernel_rfl) (by first|exact Below.refl _ _|exact hD) ?_
 repeat (go_big_quiet_step ((first
  | (go_at_call 232;with_reducible exact au (j5 HT.out _))
   | (go_at_call 116;(first|with_reducible exact bR (bW HR.out _)|with_reducible exact bR (bW HK.out _)))
   | (go_at_call 197;with_reducible exact bR (dX k _ (by omega) (by omega)))
   | (go_at_call 196;with_reducible exact au (gJ HS.out HT.out (by omega) (by omega) _))
   | (go_at_call 76;with_reducible exact au (eu d _ (by omega) (by omega))))))
 refine wpQuiet_nil ?_
 rintro _ ⟨⟨w2,hD⟩,rfl⟩
 (try dsimp only)
 clear hsub hsc
 all_goals
  go_wp2_with fail
  go_ret
  exact ⟨ag (by rw [HO.out,if_neg hbad.out]),aA (aB (Below.refl _ _) _) hD⟩
theorem CX (d:Dev) (t r k:Int) (w:World) (ht:bM d t=true) (hr:inR r 0 3=false) :
  Calls Tryz.prog 226 #[.agg #[.int .i64 d.W,.int .i64 d.H,.int .i64 d.T,.int .i64 d.R],.int .i64 t,.int .i64 r,.int .i64 k] w fun e w'=>e = .returned (.int .i64 (dL d t r k))/\Below w.heap.size w w':=by
 have HO:Hid (dL d t r k=if bM d t=true/\(0<=r/\r<=3)/\(0<=k/\k<d.T)/\0<=bE d t r (bV k) then t * aM d+7+r * d.T+k else -1):=rfl
 have hbad:Hid (¬(bM d t=true/\(0<=r/\r<=3)/\(0<=k/\k<d.T)/\0<=bE d t r (bV k))):=by rintro ⟨_,h,_⟩;have:=gF.1 hr;omega
 have hd:=(aV.1 ht).1
 have hT:=ah hd
 have HT:=Hd ht
 have HR:=Hd hr
 have HK:=hbad
 have HS:=hbad
 clear ht hr hd
 go_enter Tryz.func226,Tryz.ntmps226
 go_wp2_with fail
 have hsub:=eO (w.alloc (.cells #[.int .i64 d.W,.int .i64 d.H,.int .i64 d.T,.int .i64 d.R] 25))
 have hsc:=cZ (w.alloc (.cells #[.int .i64 d.W,.int .i64 d.H,.int .i64 d.T,.int .i64 d.R] 25))
 refine bB (w.alloc (.cells #[.int .i64 d.W,.int .i64 d.H,.int .i64 d.T,.int .i64 d.R] 25)) (by kernel_rfl) (by kernel_rfl) (by first|exact Below.refl _ _|exact hD) ?_
 repeat (go_big_quiet_step ((first
  | (go_at_call 232;with_reducible exact au (j5 HT.out _))
   | (go_at_call 116;(first|with_reducible exact bR (bW HR.out _)|with_reducible exact bR (bW HK.out _)))
   | (go_at_call 197;with_reducible exact bR (dX k _ (by omega) (by omega)))
   | (go_at_call 196;with_reducible exact au (gJ HS.out HT.out (by omega) (by omega) _))
   | (go_at_call 76;with_reducible exact au (eu d _ (by omega) (by omega))))))
 refine wpQuiet_nil ?_
 rintro _ ⟨⟨w2,hD⟩,rfl⟩
 (try dsimp only)
 clear hsub hsc
 all_goals
  go_wp2_with fail
  go_ret
  exact ⟨ag (by rw [HO.out,if_neg hbad.out]),aA (aB (Below.refl _ _) _) hD⟩
theorem CY (d:Dev) (t r k:Int) (w:World) (ht:bM d t=true) (hr:inR r 0 3=true) (hk:inR k 0 (d.T - 1)=false) :
  Calls Tryz.prog 226 #[.agg #[.int .i64 d.W,.int .i64 d.H,.int .i64 d.T,.int .i64 d.R],.int .i64 t,.int .i64 r,.int .i64 k] w fun e w'=>e = .returned (.int .i64 (dL d t r k))/\Below w.heap.size w w':=by
 have HO:Hid (dL d t r k=if bM d t=true/\(0<=r/\r<=3)/\(0<=k/\k<d.T)/\0<=bE d t r (bV k) then t * aM d+7+r * d.T+k else -1):=rfl
 have hbad:Hid (¬(bM d t=true/\(0<=r/\r<=3)/\(0<=k/\k<d.T)/\0<=bE d t r (bV k))):=by rintro ⟨_,_,h,_⟩;have:=gF.1 hk;omega
 have hd:=(aV.1 ht).1
 have hT:=ah hd
 have e3:IntKind.i64.wrap (d.T - 1)=d.T - 1:=IntWalk.i64_in _ (by omega)
 have HT:=Hd ht
 have HR:=Hd hr
 have HK:=Hd hk
 have HS:=hbad
 clear ht hr hd hk
 go_enter Tryz.func226,Tryz.ntmps226
 go_wp2_with fail
 have hsub:=eO (w.alloc (.cells #[.int .i64 d.W,.int .i64 d.H,.int .i64 d.T,.int .i64 d.R] 25))
 have hsc:=cZ (w.alloc (.cells #[.int .i64 d.W,.int .i64 d.H,.int .i64 d.T,.int .i64 d.R] 25))
 refine bB (w.alloc (.cells #[.int .i64 d.W,.int .i64 d.H,.int .i64 d.T,.int .i64 d.R] 25)) (by kernel_rfl) (by kernel_rfl) (by first|exact Below.refl _ _|exact hD) ?_
 repeat (go_big_quiet_step ((first
  | (go_at_call 232;with_reducible exact au (j5 HT.out _))
   | (go_at_call 116;(first|with_reducible exact bR (bW HR.out _)|with_reducible exact bR (bW HK.out _)))
   | (go_at_call 197;with_reducible exact bR (dX k _ (by omega) (by omega)))
   | (go_at_call 196;with_reducible exact au (gJ HS.out HT.out (by omega) (by omega) _))
   | (go_at_call 76;with_reducible exact au (eu d _ (by omega) (by omega))))))
 refine wpQuiet_nil ?_
 rintro _ ⟨⟨w2,hD⟩,rfl⟩
 (try dsimp only)
 clear hsub hsc
 all_goals
  go_wp2_with fail
  go_ret
  exact ⟨ag (by rw [HO.out,if_neg hbad.out]),aA (aB (Below.refl _ _) _) hD⟩
theorem CZ (d:Dev) (t r k:Int) (w:World) (ht:bM d t=true) (hr:inR r 0 3=true) (hk:inR k 0 (d.T - 1)=true) (hs:bE d t r (bV k)<0) :
  Calls Tryz.prog 226 #[.agg #[.int .i64 d.W,.int .i64 d.H,.int .i64 d.T,.int .i64 d.R],.int .i64 t,.int .i64 r,.int .i64 k] w fun e w'=>e = .returned (.int .i64 (dL d t r k))/\Below w.heap.size w w':=by
 have HO:Hid (dL d t r k=if bM d t=true/\(0<=r/\r<=3)/\(0<=k/\k<d.T)/\0<=bE d t r (bV k) then t * aM d+7+r * d.T+k else -1):=rfl
 have hbad:Hid (¬(bM d t=true/\(0<=r/\r<=3)/\(0<=k/\k<d.T)/\0<=bE d t r (bV k))):=by rintro ⟨_,_,_,h⟩;omega
 have hd:=(aV.1 ht).1
 have hT:=ah hd
 have hki:=aa.1 hk
 have hL:0<=bV k/\bV k<=6:=by unfold bV;omega
 have e3:IntKind.i64.wrap (d.T - 1)=d.T - 1:=IntWalk.i64_in _ (by omega)
 obtain ⟨P,hP⟩:∃P,bE d t r (bV k)=P:=⟨_,rfl⟩
 rw [hP] at hs
 have HT:=Hd ht
 have HR:=Hd hr
 have HK:=Hd hk
 have HS:=Hd hP
 clear ht hr hd hk hP
 go_enter Tryz.func226,Tryz.ntmps226
 go_wp2_with fail
 have hsub:=eO (w.alloc (.cells #[.int .i64 d.W,.int .i64 d.H,.int .i64 d.T,.int .i64 d.R] 25))
 have hsc:=cZ (w.alloc (.cells #[.int .i64 d.W,.int .i64 d.H,.int .i64 d.T,.int .i64 d.R] 25))
 refine bB (w.alloc (.cells #[.int .i64 d.W,.int .i64 d.H,.int .i64 d.T,.int .i64 d.R] 25)) (by kernel_rfl) (by kernel_rfl) (by first|exact Below.refl _ _|exact hD) ?_
 repeat (go_big_quiet_step ((first
  | (go_at_call 232;with_reducible exact au (j5 HT.out _))
   | (go_at_call 116;(first|with_reducible exact bR (bW HR.out _)|with_reducible exact bR (bW HK.out _)))
   | (go_at_call 197;with_reducible exact bR (dX k _ (by omega) (by omega)))
   | (go_at_call 196;with_reducible exact au (gJ HS.out HT.out (by omega) (by omega) _))
   | (go_at_call 76;with_reducible exact au (eu d _ (by omega) (by omega))))))
 refine wpQuiet_nil ?_
 rintro _ ⟨⟨w2,hD⟩,rfl⟩
 (try dsimp only)
 clear hsub hsc
 all_goals
  go_wp2_with fail
  go_ret
  exact ⟨ag (by rw [HO.out,if_neg hbad.out]),aA (aB (Below.refl _ _) _) hD⟩
theorem Cb (d:Dev) (t r k:Int) (w:World) (ht:bM d t=true) (hr:inR r 0 3=true) (hk:inR k 0 (d.T - 1)=true) (hs:0<=bE d t r (bV k)) :
  Calls Tryz.prog 226 #[.agg #[.int .i64 d.W,.int .i64 d.H,.int .i64 d.T,.int .i64 d.R],.int .i64 t,.int .i64 r,.int .i64 k] w fun e w'=>e = .returned (.int .i64 (dL d t r k))/\Below w.heap.size w w':=by
 have HO:Hid (dL d t r k=if bM d t=true/\(0<=r/\r<=3)/\(0<=k/\k<d.T)/\0<=bE d t r (bV k) then t * aM d+7+r * d.T+k else -1):=rfl
 have hd:=(aV.1 ht).1
 have ht0:=(aV.1 ht).2
 have hT:=ah hd
 have hWH:=dW hd
 have hp:=dB hd
 have hki:=aa.1 hk
 have hri:=aa.1 hr
 have hgood:Hid (bM d t=true/\(0<=r/\r<=3)/\(0<=k/\k<d.T)/\0<=bE d t r (bV k)):=⟨ht,hri,by omega,hs⟩
 have hL:0<=bV k/\bV k<=6:=by unfold bV;omega
 have e3:IntKind.i64.wrap (d.T - 1)=d.T - 1:=IntWalk.i64_in _ (by omega)
 have hM:=jo ht0.1 (show t<=35 by omega) (show 0<=aM d by omega) hp.2
 have hM2:=jo hri.1 hri.2 (show 0<=d.T by omega) (show d.T<=4 by omega)
 have HE:=Hd (And.intro (IntWalk.wrap64_in (t * aM d) (by omega)) (And.intro (IntWalk.wrap64_in (t * aM d+7) (by omega)) (And.intro (IntWalk.wrap64_in (r * d.T) (by omega)) (And.intro (IntWalk.wrap64_in (t * aM d+7+r * d.T) (by omega)) (IntWalk.wrap64_in (t * aM d+7+r * d.T+k) (by omega))))))
 obtain ⟨P,hP⟩:∃P,bE d t r (bV k)=P:=⟨_,rfl⟩
 rw [hP] at hs
 have HT:=Hd ht
 have HR:=Hd hr
 have HK:=Hd hk
 have HS:=Hd hP
 have HG:=hgood
 clear ht hr hd hk hP hM hM2
 go_enter Tryz.func226,Tryz.ntmps226
 go_wp2_with fail
 have hsub:=eO (w.alloc (.cells #[.int .i64 d.W,.int .i64 d.H,.int .i64 d.T,.int .i64 d.R] 25))
 have hsc:=cZ (w.alloc (.cells #[.int .i64 d.W,.int .i64 d.H,.int .i64 d.T,.int .i64 d.R] 25))
 refine bB (w.alloc (.cells #[.int .i64 d.W,.int .i64 d.H,.int .i64 d.T,.int .i64 d.R] 25)) (by kernel_rfl) (by kernel_rfl) (by first|exact Below.refl _ _|exact hD) ?_
 repeat (go_big_quiet_step ((first
  | (go_at_call 232;with_reducible exact au (j5 HT.out _))
   | (go_at_call 116;(first|with_reducible exact bR (bW HR.out _)|with_reducible exact bR (bW HK.out _)))
   | (go_at_call 197;with_reducible exact bR (dX k _ (by omega) (by omega)))
   | (go_at_call 196;with_reducible exact au (gJ HS.out HT.out (by omega) (by omega) _))
   | (go_at_call 76;with_reducible exact au (eu d _ (by omega) (by omega))))))
 refine wpQuiet_nil ?_
 rintro _ ⟨⟨w2,hD⟩,rfl⟩
 (try dsimp only)
 clear hsub hsc
 all_goals
  go_wp2_with fail
  have hsub:=eO (w.alloc (.cells #[.int .i64 d.W,.int .i64 d.H,.int .i64 d.T,.int .i64 d.R] 25))
 have hsc:=cZ (w.alloc (.cells #[.int .i64 d.W,.int .i64 d.H,.int .i64 d.T,.int .i64 d.R] 25))
 refine bB (w.alloc (.cells #[.int .i64 d.W,.int .i64 d.H,.int .i64 d.T,.int .i64 d.R] 25)) (by kernel_rfl) (by kernel_rfl) (by first|exact Below.refl _ _|exact hD) ?_
 repeat (go_big_quiet_step ((first
  | (go_at_call 232;with_reducible exact au (j5 HT.out _))
   | (go_at_call 116;(first|with_reducible exact bR (bW HR.out _)|with_reducible exact bR (bW HK.out _)))
   | (go_at_call 197;with_reducible exact bR (dX k _ (by omega) (by omega)))
   | (go_at_call 196;with_reducible exact au (gJ HS.out HT.out (by omega) (by omega) _))
   | (go_at_call 76;with_reducible exact au (eu d _ (by omega) (by omega))))))
 refine wpQuiet_nil ?_
 rintro _ ⟨⟨w2,hD⟩,rfl⟩
 (try dsimp only)
 clear hsub hsc
 all_goals
  go_wp2_with fail
  go_ret
  exact ⟨ag (by rw [HO.out,if_pos HG.out];first|rfl|(rw [HE.out.1,HE.out.2.1,HE.out.2.2.1,HE.out.2.2.2.1,HE.out.2.2.2.2])),aA (aB (Below.refl _ _) _) hD⟩
theorem sG (d:Dev) (t r k:Int) (w:World) :
  Calls Tryz.prog 226 #[.agg #[.int .i64 d.W,.int .i64 d.H,.int .i64 d.T,.int .i64 d.R],.int .i64 t,.int .i64 r,.int .i64 k] w fun e w'=>e = .returned (.int .i64 (dL d t r k))/\Below w.heap.size w w':=by
 cases ht:bM d t with
 | false=>exact CW d t r k w ht
 | true =>
  cases hr:inR r 0 3 with
  | false=>exact CX d t r k w ht hr
  | true =>
   cases hk:inR k 0 (d.T - 1) with
   | false=>exact CY d t r k w ht hr hk
   | true =>
    rcases Int.lt_or_le (bE d t r (bV k)) 0 with h|h
    ·exact CZ d t r k w ht hr hk h
    ·exact Cb d t r k w ht hr hk h
/-! ### which nodes exist -/
theorem vH (d:Dev) (n:Int) (w:World) (hn:cB d n=false) :
  Calls Tryz.prog 141 #[.agg #[.int .i64 d.W,.int .i64 d.H,.int .i64 d.T,.int .i64 d.R],.int .i64 n] w fun e w'=>e = .returned (.bool (bU d n))/\Below w.heap.size w w':=by
 have HR:Hid (bU d n=false):=by show _=false;unfold bU;rw [hn];rfl
 have HN:=Hd hn
 clear hn
 go_enter Tryz.func141,Tryz.ntmps141
 go_wp2_with fail
 refine (fM d _).mono ?_
 rintro e w1 ⟨rfl,b1⟩
 have B1:=Hd (aA (aB (Below.refl _ _) _) b1)
 have hb1:=b1.size
 simp only [World.size_alloc] at hb1
 obtain ⟨hcc,hff⟩:=aQ b1
 clear b1
 cases hd:bL d with
 | false =>
  go_wp2_with fail
  go_ret
  exact ⟨aI HR.out.symm,B1.out⟩
 | true =>
  have hh:=dC hd
  have HD:=Hd hd
  clear hd
  go_wp2_with fail
  refine (nI d _ HD.out).mono ?_
  rintro e w2 ⟨rfl,b2⟩
  have B2:=Hd (aA B1.out b2)
  clear b2 hcc hff
  have e3:IntKind.i64.wrap (az d - 1)=az d - 1:=IntWalk.i64_in _ (by omega)
  have hin:inR n 0 (az d - 1)=false:=by
   cases h:inR n 0 (az d - 1) with
   | false=>rfl
   | true =>
    have h1:=HN.out
    have h2:=aa.1 h
    rw [cB,HD.out,decide_eq_true (by omega),decide_eq_true (by omega)] at h1
    cases h1
  have HI:=Hd hin
  clear hin
  go_wp2_with (go_at_call 116;refine (bW HI.out _).mono ?_;rintro e w' ⟨rfl,rfl⟩)
  go_ret
  exact ⟨aI HR.out.symm,B2.out⟩
theorem wJ (d:Dev) (n:Int) (w:World) (hn:cB d n=true) :
  Calls Tryz.prog 141 #[.agg #[.int .i64 d.W,.int .i64 d.H,.int .i64 d.T,.int .i64 d.R],.int .i64 n] w fun e w'=>e = .returned (.bool (bU d n))/\Below w.heap.size w w':=by
 have HR:Hid (bU d n=uP d (n / aM d) (n % aM d)):=by show _=_;unfold bU;rw [hn];rfl
 have HN:=Hd hn
 obtain ⟨hd,n0,n1,hq0,hq1,hr0,hr1⟩:=dP hn
 have hT:=ah hd
 have hp:=dB hd
 have hWH:=dW hd
 have hh:=dC hd
 have HTI:=Hd (iK hn)
 have HD:=Hd hd
 have e3:IntKind.i64.wrap (az d - 1)=az d - 1:=IntWalk.i64_in _ (by omega)
 have HI:Hid (inR n 0 (az d - 1)=true):=by
  show _=true
  unfold cB at hn
  simp only [Bool.and_eq_true,decide_eq_true_eq] at hn
  rw [aa]
  omega
 clear hn hd
 go_enter Tryz.func141,Tryz.ntmps141
 go_wp2_with fail
 refine (fM d _).mono ?_
 rintro e w1 ⟨rfl,b1⟩
 rw [HD.out]
 have B1:=Hd b1
 have hb1:=b1.size
 simp only [World.size_alloc] at hb1
 obtain ⟨hcc,hff⟩:=aQ b1
 clear b1
 go_wp2_with fail
 refine (nI d _ HD.out).mono ?_
 rintro e w2 ⟨rfl,b2⟩
 have B2:=Hd (aA B1.out b2)
 have hb2:=b2.size
 clear b2 hcc hff
 obtain ⟨hcc,hff⟩:=aQ B2.out
 go_wp2_with (go_at_call 116;refine (bW HI.out _).mono ?_;rintro e w' ⟨rfl,rfl⟩)
 refine (fP d n _ HN.out).mono ?_
 rintro e w3 ⟨rfl,b3⟩
 have B3:=Hd (aA B2.out b3)
 have hb3:=b3.size
 clear b3 hcc hff e3
 obtain ⟨hcc,hff⟩:=aQ B3.out
 have hWIRE:=Hd (fun (h7:7<=n % aM d) (w:World)=>xN d n w HN.out h7)
 generalize hk:n % aM d=k at *
 generalize hq:n / aM d=q at *
 have hK:uP d q k=if k<5 then decide (k<mI (bA d q)) else if k<7 then decide (k - 5<dn (bA d q)) else decide (0<=bE d q ((k - 7) / d.T) (bV ((k - 7) % d.T))):=rfl
 have HK:=Hd hK
 have HKQ:=Hd (And.intro hk hq)
 have hip:=zH d q
 have hop:=gy d q
 have hKT:=(fun w=>ik d q w HD.out (by omega) (by omega))
 have HKT:=Hd hKT
 generalize bA d q=K at *
 clear hK hk hq hKT
 have h3:k<5∨(¬k<5/\k<7)∨(¬k<5/\¬k<7):=by omega
 rcases h3 with h|⟨h,h'⟩|⟨h,h'⟩
 ·go_wp2_with fail
  refine (HKT.out _).mono ?_
  rintro e w4 ⟨rfl,b4⟩
  have B4:=Hd (aA B3.out b4)
  clear b4 hcc hff
  generalize hQ:mI K=Q at *
  have HQ:=Hd hQ
  clear hQ
  go_wp2_with (go_at_call 193;refine (CS _ _).mono ?_;rw [HQ.out];rintro e w' ⟨rfl,rfl⟩)
  go_ret
  exact ⟨aI (by rw [HR.out,HK.out,if_pos (by omega)]),aA (aB (Below.refl _ _) _) B4.out⟩
 ·go_wp2_with fail
  refine (HKT.out _).mono ?_
  rintro e w4 ⟨rfl,b4⟩
  have B4:=Hd (aA B3.out b4)
  clear b4 hcc hff
  generalize hQ:dn K=Q at *
  have HQ:=Hd hQ
  clear hQ
  go_wp2_with (go_at_call 194;refine (uQ _ _).mono ?_;rw [HQ.out];rintro e w' ⟨rfl,rfl⟩)
  go_ret
  exact ⟨aI (by rw [HR.out,HK.out,if_neg (by omega),if_pos (by omega)]),aA (aB (Below.refl _ _) _) B4.out⟩
 ·have hT0:=Int.ediv_nonneg (show 0<=k - 7 by omega) (show 0<=d.T by omega)
  have hT1:=Int.emod_nonneg (k - 7) (show d.T≠0 by omega)
  have hT2:=Int.emod_lt_of_pos (k - 7) (show 0<d.T by omega)
  go_wp2_with fail
  refine (hWIRE.out (by omega) _).mono ?_
  rintro e w4 ⟨rfl,b4⟩
  have hD:=aA B3.out b4
  have hb4:=b4.size
  clear b4 hcc hff
  obtain ⟨hcc,hff⟩:=aQ hD
  generalize (k - 7) / d.T=r at *
  generalize (k - 7) % d.T=m at *
  have hL:0<=bV m/\bV m<=6:=by unfold bV;omega
  have HS:Hid (∃P,bE d q r (bV m)=P):=⟨_,rfl⟩
  obtain ⟨P,hP⟩:=HS.out
  have HP:=Hd hP
  clear hP
  go_wp2_with fail
  clear hcc hff
  have hsub:=eO (w.alloc (.cells #[.int .i64 d.W,.int .i64 d.H,.int .i64 d.T,.int .i64 d.R] 25))
  have hsc:=cZ (w.alloc (.cells #[.int .i64 d.W,.int .i64 d.H,.int .i64 d.T,.int .i64 d.R] 25))
  refine bB (w.alloc (.cells #[.int .i64 d.W,.int .i64 d.H,.int .i64 d.T,.int .i64 d.R] 25)) (by kernel_rfl) (by kernel_rfl) (by first|exact Below.refl _ _|exact hD) ?_
  repeat (go_big_quiet_step ((first
   | (go_at_call 197;with_reducible exact bR (dX m _ (by omega) (by omega)))
   | (go_at_call 196;with_reducible exact au (gJ HP.out HTI.out (by omega) (by omega) _)))))
  refine wpQuiet_nil ?_
  rintro _ ⟨⟨w2,hD⟩,rfl⟩
  (try dsimp only)
  clear hsub hsc
  go_wp2_with fail
  go_ret
  exact ⟨aI (by rw [HR.out,HK.out,if_neg (by omega),if_neg (by omega),HP.out]),aA (aB (Below.refl _ _) _) hD⟩
theorem iL (d:Dev) (n:Int) (w:World) :
  Calls Tryz.prog 141 #[.agg #[.int .i64 d.W,.int .i64 d.H,.int .i64 d.T,.int .i64 d.R],.int .i64 n] w fun e w'=>e = .returned (.bool (bU d n))/\Below w.heap.size w w':=by
 cases hn:cB d n with
 | false=>exact vH d n w hn
 | true=>exact wJ d n w hn
end Go.Proofs.YtignkfhdkcgkgaaGreat
