/- The kinds of tiles and the states of a device: the program's answers and the reference's are one. -/
import Derived.Test.YtofihjoanjkdmaaGreatPads
namespace Go.Proofs.YtofihjoanjkdmaaGreat
set_option maxHeartbeats 1000000
set_option maxRecDepth 100000
open Go.RowKit
def bA (d:Dev) (t:Int):Int :=
 if t % d.W=0∨t % d.W=d.W - 1∨t / d.W=0∨t / d.W=d.H - 1 then 0 else if t % d.W=d.R then 2 else 1
theorem ji (d:Dev) (t:Int):bA d t=0∨bA d t=1∨bA d t=2:=by
 unfold bA
 split
 ·simp
 ·split <;> simp
def jA (d:Dev) (t:Int):Int:=if dQ d=true/\0<=t/\t<d.W * d.H then bA d t else -1
theorem kG (d:Dev) (t:Int) (w:World) (hd:dQ d=true) (ht:0<=t) (ht':t<=1099511627776) :
  Calls Tryz.prog 217 #[.agg #[.int .i64 d.W,.int .i64 d.H,.int .i64 d.T,.int .i64 d.R],.int .i64 t] w fun e w'=>e = .returned (.int .i64 (bA d t))/\Below w.heap.size w w':=by
 obtain ⟨hw1,hw2,hh1,hh2,_⟩:=bC hd
 have e0:¬d.W=0:=by omega
 have e1:t.tmod d.W=t % d.W:=Int.tmod_eq_emod_of_nonneg ht
 have e2:IntKind.i64.wrap (t.tdiv d.W)=t / d.W:=IntWalk.i64_quo _ _ ⟨ht,by omega,by omega⟩
 have hr0:0<=t % d.W:=Int.emod_nonneg _ e0
 have hr1:t % d.W<d.W:=Int.emod_lt_of_pos _ (by omega)
 clear hd
 go_enter Tryz.func217,Tryz.ntmps217
 go_wp2_with fail
 go_quiet (fail)
 clear e1 e2
 go_wp2_with fail
 all_goals (go_ret;exact ⟨aQ (by (try simp only [beq_iff_eq,beq_eq_false_iff_ne,ne_eq] at *);first|(rw [bA,if_pos (by omega)])|(rw [bA,if_neg (by omega),if_pos (by omega)])|(rw [bA,if_neg (by omega),if_neg (by omega)])),ay (aF (Below.refl _ _) _) _⟩)
theorem nP (d:Dev) (t:Int) (w:World) (ht':t<=1099511627776) :
  Calls Tryz.prog 113 #[.agg #[.int .i64 d.W,.int .i64 d.H,.int .i64 d.T,.int .i64 d.R],.int .i64 t] w fun e w'=>e = .returned (.int .i64 (jA d t))/\Below w.heap.size w w':=by
 go_enter Tryz.func113,Tryz.ntmps113
 go_wp2_with fail
 refine (gH d _).mono ?_
 rintro e w1 ⟨rfl,b1⟩
 obtain ⟨hcc,hff⟩:=bI b1
 have B1:=Hd (aB (aF (Below.refl _ _) _) b1)
 clear b1
 cases hd:dQ d with
 | false =>
  have HD:=Hd hd
  clear hd
  go_wp2_with fail
  go_ret
  exact ⟨aQ (by rw [jA,if_neg (by rw [HD.out];simp)]),B1.out⟩
 | true =>
  obtain ⟨hN,hN1,hN2⟩:=mF hd
  obtain ⟨hw1,hw2,hh1,hh2,_⟩:=bC hd
  have HD:=Hd hd
  have HN:=Hd hN
  clear hd
  by_cases h0:t<0
  ·go_wp2_with fail
   go_ret
   exact ⟨aQ (by rw [jA,if_neg (by omega)]),B1.out⟩
  ·by_cases h1:t≥(nS d:Int)
   ·go_wp2_with fail
    go_ret
    exact ⟨aQ (by rw [jA,if_neg (by rw [HN.out];omega)]),B1.out⟩
   ·have e0:¬d.W=0:=by omega
    have hr0:0<=t % d.W:=Int.emod_nonneg _ e0
    have hr1:t % d.W<d.W:=Int.emod_lt_of_pos _ (by omega)
    have hk:jA d t=bA d t:=by rw [jA,if_pos ⟨HD.out,by omega,by rw [HN.out];omega⟩]
    have HK:=Hd hk
    clear hk
    go_wp2_with fail
    all_goals (go_ret;exact ⟨aQ (by rw [HK.out];(try simp only [beq_iff_eq,beq_eq_false_iff_ne,ne_eq] at *);first|(rw [bA,if_pos (by omega)])|(rw [bA,if_neg (by omega),if_pos (by omega)])|(rw [bA,if_neg (by omega),if_neg (by omega)])),B1.out⟩)
theorem uh {d:Dev} {t:Int} (hd:dQ d=true) (h0:0<=t) (h1:t<d.W * d.H):jA d t=bA d t:=by rw [jA,if_pos ⟨hd,h0,h1⟩]
def aX (d:Dev):Int:=7+4 * d.T
def iC (k:Int):Int:=if k=0 then 1 else if k=1 then 5 else if k=2 then 4 else 0
def dV (k:Int):Int:=if k=0 then 1 else if k=1 then 2 else if k=2 then 1 else 0
def stX (d:Dev) (t r s:Int):Int:=if r=0 then t % d.W+s else if r=2 then t % d.W - s else t % d.W
def stY (d:Dev) (t r s:Int):Int:=if r=1 then t / d.W+s else if r=0 then t / d.W else if r=2 then t / d.W else t / d.W - s
def kz (d:Dev) (t r s:Int):Bool:=inR (stX d t r s) 0 (d.W - 1) && inR (stY d t r s) 0 (d.H - 1)
def ah (d:Dev) (t r s:Int):Int:=if kz d t r s=true then stY d t r s * d.W+stX d t r s else -1
def bP (k:Int):Int:=1+k % 2
def fe (d:Dev):Int:=d.W * d.H * aX d
def au (d:Dev) (t:Int):Bool:=dQ d && (decide (0<=t) && decide (t<d.W * d.H))
theorem aW {d:Dev} {t:Int}:au d t=true↔dQ d=true/\0<=t/\t<d.W * d.H:=by simp [au]
def dZ (d:Dev) (t p:Int):Int:=if au d t=true/\0<=p/\p<dV (bA d t) then t * aX d+5+p else -1
def dJ (d:Dev) (t r k:Int):Int:=if au d t=true/\(0<=r/\r<=3)/\(0<=k/\k<d.T)/\0<=ah d t r (bP k) then t * aX d+7+r * d.T+k else -1
def oH (d:Dev) (t k:Int):Bool :=
 if k<5 then decide (k<iC (bA d t)) else if k<7 then decide (k - 5<dV (bA d t)) else decide (0<=ah d t ((k - 7) / d.T) (bP ((k - 7) % d.T)))
def fF (d:Dev) (n:Int):Bool:=dQ d && (decide (0<=n) && decide (n<fe d))
def bH (d:Dev) (n:Int):Bool:=fF d n && oH d (n / aX d) (n % aX d)
theorem eG {d:Dev} (h:dQ d=true):9<=d.W * d.H/\d.W * d.H<=36:=by
 obtain ⟨hN,h1,h2⟩:=mF h
 omega
theorem dw {d:Dev} (h:dQ d=true):11<=aX d/\aX d<=23:=by
 have:=bC h
 unfold aX
 omega
theorem iM {a b A B:Int} (h0:0<=a) (h1:a<=A) (k0:0<=b) (k1:b<=B):0<=a * b/\a * b<=A * B :=
 ⟨Int.mul_nonneg h0 k0,Int.mul_le_mul h1 k1 k0 (by omega)⟩
theorem fT {d:Dev} (h:dQ d=true):99<=fe d/\fe d<=828:=by
 obtain ⟨h1,h2⟩:=eG h
 obtain ⟨h3,h4⟩:=dw h
 unfold fe
 refine ⟨?_,(iM (by omega) h2 (by omega) h4).2⟩
 have:9 * 11<=d.W * d.H * aX d:=Int.mul_le_mul h1 h3 (by omega) (by omega)
 omega
theorem mK {d:Dev} {t:Int} (h:au d t=true):0<=t % d.W/\t % d.W<d.W/\0<=t / d.W/\t / d.W<d.H/\t=t / d.W * d.W+t % d.W:=by
 obtain ⟨hd,h0,h1⟩:=aW.1 h
 obtain ⟨w1,w2,_⟩:=bC hd
 refine ⟨Int.emod_nonneg _ (by omega),Int.emod_lt_of_pos _ (by omega),Int.ediv_nonneg h0 (by omega),?_,?_⟩
 ·exact Int.ediv_lt_of_lt_mul (by omega) (by rw [Int.mul_comm];exact h1)
 ·have:=Int.emod_add_mul_ediv t d.W
  rw [Int.mul_comm (t / d.W)]
  omega
theorem jF {d:Dev} {n:Int} (h:fF d n=true):dQ d=true/\0<=n/\n<=827/\0<=n / aX d/\n / aX d<d.W * d.H/\0<=n % aX d/\n % aX d<aX d:=by
 simp only [fF,Bool.and_eq_true,decide_eq_true_eq] at h
 obtain ⟨hd,h0,h1⟩:=h
 have:=fT hd
 have hp:=dw hd
 exact ⟨hd,h0,by omega,Int.ediv_nonneg h0 (by omega),Int.ediv_lt_of_lt_mul (by omega) h1,Int.emod_nonneg _ (by omega),Int.emod_lt_of_pos _ (by omega)⟩
theorem jk {d:Dev} {n:Int} (h:fF d n=true):au d (n / aX d)=true:=by
 obtain ⟨hd,_,_,h1,h2,_⟩:=jF h
 exact aW.2 ⟨hd,h1,h2⟩
theorem l7 {a b q r:Int} (h:a=q * b+r) (h0:0<=r) (h1:r<b):a / b=q/\a % b=r:=by
 subst h
 constructor
 ·rw [Int.add_comm,Int.add_mul_ediv_right _ _ (by omega),Int.ediv_eq_zero_of_lt h0 h1];omega
 ·rw [Int.add_comm,Int.add_mul_emod_self_right,Int.emod_eq_of_lt h0 h1]
theorem wV {d:Dev} {t r s:Int} (h:kz d t r s=true):0<=stX d t r s/\stX d t r s<d.W/\0<=stY d t r s/\stY d t r s<d.H:=by
 simp only [kz,Bool.and_eq_true,aV] at h
 omega
theorem vv {d:Dev} (hd:dQ d=true) {x y:Int} (hx:0<=x) (hx1:x<d.W) (hy:0<=y) (hy1:y<d.H):au d (y * d.W+x)=true/\(y * d.W+x) % d.W=x/\(y * d.W+x) / d.W=y:=by
 obtain ⟨w1,w2,_⟩:=bC hd
 obtain ⟨e1,e2⟩:=l7 (a:=y * d.W+x) rfl hx hx1
 refine ⟨aW.2 ⟨hd,?_,?_⟩,e2,e1⟩
 ·have:=Int.mul_nonneg hy (show 0<=d.W by omega);omega
 ·have:y * d.W<=(d.H - 1) * d.W:=Int.mul_le_mul_of_nonneg_right (by omega) (by omega)
  have e:(d.H - 1) * d.W=d.W * d.H - d.W:=by rw [Int.sub_mul,Int.one_mul,Int.mul_comm]
  omega
theorem l8 {d:Dev} {t r s:Int} (hd:dQ d=true) (h:0<=ah d t r s):kz d t r s=true/\au d (ah d t r s)=true/\ah d t r s % d.W=stX d t r s/\ah d t r s / d.W=stY d t r s:=by
 cases hs:kz d t r s with
 | false=>rw [ah,hs] at h;simp at h
 | true =>
  rw [ah,if_pos hs]
  obtain ⟨a,b,c,e⟩:=wV hs
  exact ⟨rfl,vv hd a b c e⟩
theorem yP {d:Dev} {t r s:Int} (h:kz d t r s=false):ah d t r s=-1:=by rw [ah,h];simp
theorem jH {d:Dev} {t r s:Int} (hd:dQ d=true):-1<=ah d t r s/\ah d t r s<d.W * d.H:=by
 have:=eG hd
 cases hs:kz d t r s with
 | false=>rw [yP hs];omega
 | true =>
  have h0:0<=ah d t r s:=by
   rw [ah,if_pos hs]
   obtain ⟨a,_,c,_⟩:=wV hs
   have:=Int.mul_nonneg c (show 0<=d.W by have:=bC hd;omega)
   omega
  have:=aW.1 (l8 hd h0).2.1
  omega
theorem xU {d:Dev} {t r s:Int} (ht:au d t=true) (hr:0<=r) (hr3:r<=3) (h:0<=ah d t ((r+2) % 4) s):ah d (ah d t ((r+2) % 4) s) r s=t:=by
 have hd:=(aW.1 ht).1
 obtain ⟨_,_,ex,ey⟩:=l8 hd h
 obtain ⟨x0,x1,y0,y1,et⟩:=mK ht
 have hX:stX d (ah d t ((r+2) % 4) s) r s=t % d.W:=by
  rw [stX,ex]
  have:r=0∨r=1∨r=2∨r=3:=by omega
  rcases this with rfl|rfl|rfl|rfl <;> simp [stX] <;> omega
 have hY:stY d (ah d t ((r+2) % 4) s) r s=t / d.W:=by
  rw [stY,ey]
  have:r=0∨r=1∨r=2∨r=3:=by omega
  rcases this with rfl|rfl|rfl|rfl <;> simp [stY] <;> omega
 rw [ah,kz,hX,hY,aV.2 ⟨x0,by omega⟩,aV.2 ⟨y0,by omega⟩]
 simp only [Bool.and_self,if_true]
 exact et.symm
theorem yQ {d:Dev} {t r s s':Int} (hd:dQ d=true) (hr:0<=r) (hr3:r<=3) (h:0<=ah d t r s) (h':0<=ah d t r s') (e:ah d t r s=ah d t r s'):s=s':=by
 obtain ⟨_,_,ex,ey⟩:=l8 hd h
 obtain ⟨_,_,ex',ey'⟩:=l8 hd h'
 rw [e] at ex ey
 rw [ex] at ex'
 rw [ey] at ey'
 have:r=0∨r=1∨r=2∨r=3:=by omega
 rcases this with rfl|rfl|rfl|rfl <;> simp [stX,stY] at ex' ey' <;> omega
/-! ### ascending lists -/
def ins:List Int→Int→List Int
 | [],x=>[x]
 | y :: l,x=>if y<x then y :: ins l x else if y=x then y :: l else x :: y :: l
def asc (l:List Int):List Int:=l.foldl ins []
theorem wW {l:List Int} {x y:Int}:y∈ins l x↔y=x∨y∈l:=by
 induction l with
 | nil=>simp [ins]
 | cons z l ih =>
  rw [ins]
  split
  ·simp only [List.mem_cons,ih]
   constructor
   ·rintro (h|h|h) <;> simp [h]
   ·rintro (h|h|h) <;> simp [h]
  ·split
   ·rename_i h
    subst h
    simp only [List.mem_cons]
    constructor
    ·rintro (h|h) <;> simp [h]
    ·rintro (h|h|h) <;> simp [h]
   ·simp
def Asc (l:List Int):Prop:=l.Pairwise (·<·)
theorem zD {l:List Int} {x:Int} (h:Asc l):Asc (ins l x):=by
 induction l with
 | nil=>simp [ins,Asc]
 | cons z l ih =>
  unfold Asc at *
  rw [List.pairwise_cons] at h
  rw [ins]
  split
  ·rw [List.pairwise_cons]
   refine ⟨fun y hy=>?_,ih h.2⟩
   rcases wW.1 hy with rfl|hy
   ·assumption
   ·exact h.1 y hy
  ·split
   ·rw [List.pairwise_cons];exact h
   ·rw [List.pairwise_cons]
    refine ⟨fun y hy=>?_,List.pairwise_cons.2 h⟩
    rcases List.mem_cons.1 hy with rfl|hy
    ·omega
    ·have:=h.1 y hy;omega
theorem rO {l:List Int}:∀{l0:List Int},Asc l0→Asc (l.foldl ins l0)/\∀y,y∈l.foldl ins l0↔y∈l0∨y∈l:=by
 induction l with
 | nil=>intro l0 h;exact ⟨h,by simp⟩
 | cons x l ih =>
  intro l0 h
  obtain ⟨h1,h2⟩:=ih (zD (x:=x) h)
  refine ⟨h1,fun y=>?_⟩
  rw [List.foldl_cons,h2,wW,List.mem_cons]
  constructor
  ·rintro ((h|h)|h) <;> simp [h]
  ·rintro (h|h|h) <;> simp [h]
theorem pY (l:List Int):Asc (asc l):=(rO (l:=l) (l0:=[]) (by simp [Asc])).1
theorem oI {l:List Int} {y:Int}:y∈asc l↔y∈l:=by rw [asc,(rO (l:=l) (l0:=[]) (by simp [Asc])).2];simp
theorem mM (l:List Int) (x:Int):asc (l++[x])=ins (asc l) x:=by simp [asc]
theorem nQ (l:List Int) (x:Int):(ins l x).length<=l.length+1:=by
 induction l with
 | nil=>simp [ins]
 | cons z l ih =>
  rw [ins]
  split
  ·simp;omega
  ·split <;> simp
theorem jB (l:List Int):(asc l).length<=l.length:=by
 have:∀l0:List Int,(l.foldl ins l0).length<=l0.length+l.length:=by
  induction l with
  | nil=>intro l0;simp
  | cons x l ih=>intro l0;have h1:=ih (ins l0 x);have:=nQ l0 x;simp only [List.foldl_cons,List.length_cons];omega
 simpa [asc] using this []
theorem mO:∀{l m:List Int},Asc l→Asc m→(∀y,y∈l↔y∈m)→l=m
 | [],[],_,_,_=>rfl
 | [],y :: m,_,_,h=>by have:=(h y).2 (by simp);simp at this
 | x :: l,[],_,_,h=>by have:=(h x).1 (by simp);simp at this
 | x :: l,y :: m,h1,h2,h=>by
  unfold Asc at *
  rw [List.pairwise_cons] at h1 h2
  have hxy:x=y:=by
   have a:=(h x).1 (by simp)
   have b:=(h y).2 (by simp)
   rcases List.mem_cons.1 a with a|a
   ·exact a
   ·rcases List.mem_cons.1 b with b|b
    ·exact b.symm
    ·have:=h1.1 y b
     have:=h2.1 x a
     omega
  subst hxy
  rw [mO (l:=l) (m:=m) h1.2 h2.2 fun z=>?_]
  constructor
  ·intro hz
   have:=(h z).1 (by simp [hz])
   rcases List.mem_cons.1 this with rfl|this
   ·have:=h1.1 z hz;omega
   ·exact this
  ·intro hz
   have:=(h z).2 (by simp [hz])
   rcases List.mem_cons.1 this with rfl|this
   ·have:=h2.1 z hz;omega
   ·exact this
theorem vw {l m:List Int} (hp:l.Perm m) (hs:l.Pairwise (·<=·)) (hn:m.Nodup):l=asc m:=by
 have hn':l.Pairwise (·≠·):=hp.nodup_iff.2 hn
 refine mO ?_ (pY _) fun y=>by rw [oI];exact hp.mem_iff
 unfold Asc
 exact (hs.and hn').imp fun ⟨a,b⟩=>by omega
theorem xV {l m:List Int} (h:∀y,y∈l↔y∈m):asc l=asc m:=mO (pY _) (pY _) fun y=>by rw [oI,oI];exact h y
/-! ### the sources of a node -/
def iV (d:Dev) (t r k s:Int):Int:=dJ d (ah d t ((r+2) % 4) s) r k
def j5 (x:Int):List Int:=if 0<=x then [x] else []
theorem nG {x y:Int}:y∈j5 x↔y=x/\0<=x:=by unfold j5;split <;> simp [*]
def oZ (d:Dev) (pin k:Int):Bool:=!(decide (d.T>1) && decide ((k+pin) % 2=1))
def pg (d:Dev) (dir track r k s:Int):Bool:=decide (r≠(dir+2) % 4) && ((decide (k=track) || decide (k=(track+1) % d.T)) && decide (s=bP k))
def jv (d:Dev) (pin r k s:Int):Bool:=if 7<=pin then pg d ((pin - 7) / d.T) ((pin - 7) % d.T) r k s else oZ d pin k
def jw (d:Dev) (t pin r k s:Int):List Int:=if jv d pin r k s=true then j5 (iV d t r k s) else []
def gB (d:Dev) (t pin r k:Int) (s:Nat):List Int:=(List.range s).flatMap fun (j:Nat)=>jw d t pin r k ((j:Int)+1)
def gX (d:Dev) (t pin r:Int) (k:Nat):List Int:=(List.range k).flatMap fun (j:Nat)=>gB d t pin r (j:Int) (bP (j:Int)).toNat
def fU (d:Dev) (t pin:Int) (r:Nat):List Int:=(List.range r).flatMap fun (j:Nat)=>gX d t pin (j:Int) d.T.toNat
def gW (d:Dev) (t:Int):List Int:=if dV (bA d t)>1 then [dZ d t 0,dZ d t 1] else [dZ d t 0]
def iW (d:Dev) (t pin:Int):List Int:=(if 7<=pin then gW d t else [])++fU d t pin 4
def iE (d:Dev) (n:Int):List Int:=if bH d n=true/\¬(n % aX d=5∨n % aX d=6) then asc (iW d (n / aX d) (n % aX d)) else []
theorem mP {d:Dev} {t r k s:Int} (_hd:dQ d=true) (h:0<=iV d t r k s) :
  au d (ah d t ((r+2) % 4) s)=true/\(0<=r/\r<=3)/\(0<=k/\k<d.T)/\0<=ah d (ah d t ((r+2) % 4) s) r (bP k)/\iV d t r k s=ah d t ((r+2) % 4) s * aX d+(7+r * d.T+k):=by
 unfold iV at h ⊢
 unfold dJ at h ⊢
 split at h
 ·rename_i hc
  rw [if_pos hc]
  exact ⟨hc.1,hc.2.1,hc.2.2.1,hc.2.2.2,by omega⟩
 ·omega
theorem lC {d:Dev} {t r k s:Int} (hd:dQ d=true) (h:0<=iV d t r k s):iV d t r k s / aX d=ah d t ((r+2) % 4) s/\iV d t r k s % aX d=7+r * d.T+k/\7<=7+r * d.T+k:=by
 obtain ⟨h1,⟨r0,r1⟩,⟨k0,k1⟩,_,e⟩:=mP hd h
 have hT:=bC hd
 have hm:=iM r0 r1 (show 0<=d.T by omega) (Int.le_refl d.T)
 have:=l7 (b:=aX d) e (by omega) (by unfold aX;omega)
 exact ⟨this.1,this.2,by omega⟩
theorem yR {T r k r' k':Int} (k0:0<=k) (k1:k<T) (k0':0<=k') (k1':k'<T) (e:7+r * T+k=7+r' * T+k'):r=r'/\k=k':=by
 have h1:=l7 (a:=r * T+k) rfl k0 k1
 have h2:=l7 (a:=r' * T+k') rfl k0' k1'
 have e':r * T+k=r' * T+k':=by omega
 rw [e'] at h1
 exact ⟨h1.1.symm.trans h2.1,h1.2.symm.trans h2.2⟩
theorem jM {d:Dev} {t pin r k s y:Int}:y∈jw d t pin r k s↔jv d pin r k s=true/\y=iV d t r k s/\0<=iV d t r k s:=by
 unfold jw
 split
 ·rename_i h;rw [nG];simp [h]
 ·rename_i h;simp [h]
theorem kQ {d:Dev} {t pin r k y:Int} {s:Nat}:y∈gB d t pin r k s↔∃j,j<s/\y∈jw d t pin r k ((j:Int)+1):=by simp [gB]
theorem nH {d:Dev} {t pin r y:Int} {k:Nat}:y∈gX d t pin r k↔∃j,j<k/\y∈gB d t pin r (j:Int) (bP (j:Int)).toNat:=by simp [gX]
theorem xW {d:Dev} {t pin y:Int} {r:Nat}:y∈fU d t pin r↔∃j,j<r/\y∈gX d t pin (j:Int) d.T.toNat:=by simp [fU]
theorem qQ {d:Dev} {t pin y:Int} (_hd:dQ d=true):y∈fU d t pin 4↔∃r k s:Int,(0<=r/\r<=3)/\(0<=k/\k<d.T)/\(1<=s/\s<=bP k)/\jv d pin r k s=true/\y=iV d t r k s/\0<=y:=by
 rw [xW]
 constructor
 ·rintro ⟨r,hr,h⟩
  obtain ⟨k,hk,h⟩:=nH.1 h
  obtain ⟨s,hs,h⟩:=kQ.1 h
  obtain ⟨h1,h2,h3⟩:=jM.1 h
  exact ⟨r,k,(s:Int)+1,by omega,by omega,by omega,h1,h2,by omega⟩
 ·rintro ⟨r,k,s,hr,hk,hs,h1,h2,h3⟩
  refine ⟨r.toNat,by omega,nH.2 ⟨k.toNat,by omega,kQ.2 ⟨(s - 1).toNat,by rw [show ((k.toNat:Nat):Int)=k by omega];omega,jM.2 ?_⟩⟩⟩
  rw [show ((r.toNat:Nat):Int)=r by omega,show ((k.toNat:Nat):Int)=k by omega,show (((s - 1).toNat:Nat):Int)+1=s by omega]
  exact ⟨h1,h2,by omega⟩
theorem ui (d:Dev) (t pin r k s:Int):(jw d t pin r k s).Nodup:=by
 unfold jw j5
 split
 ·split <;> simp
 ·simp
theorem qR (n:Nat):(List.range n).Pairwise (·≠·):=List.nodup_range
theorem uj (d:Dev) (hd:dQ d=true) (t pin:Int):(fU d t pin 4).Nodup:=by
 have hk:∀r k:Int,0<=r/\r<=3→∀s:Nat,(gB d t pin r k s).Nodup:=by
  intro r k hr s
  unfold List.Nodup gB
  rw [List.pairwise_flatMap]
  refine ⟨fun a _=>ui _ _ _ _ _ _,(qR _).imp ?_⟩
  intro a b hab x hx y hy e
  obtain ⟨_,rfl,h1⟩:=jM.1 hx
  obtain ⟨_,rfl,h2⟩:=jM.1 hy
  have e1:=(lC hd h1).1
  have e2:=(lC hd h2).1
  rw [e,e2] at e1
  have g1:=(aW.1 (mP hd h1).1).2.1
  have g2:=(aW.1 (mP hd h2).1).2.1
  have:=yQ hd (by omega) (by omega) g2 g1 e1
  omega
 have hr:∀r:Int,0<=r/\r<=3→(gX d t pin r d.T.toNat).Nodup:=by
  intro r hr
  unfold List.Nodup gX
  rw [List.pairwise_flatMap]
  refine ⟨fun a _=>hk _ _ hr _,(qR _).imp ?_⟩
  intro a b hab x hx y hy e
  obtain ⟨_,_,hx⟩:=kQ.1 hx
  obtain ⟨_,_,hy⟩:=kQ.1 hy
  obtain ⟨_,rfl,h1⟩:=jM.1 hx
  obtain ⟨_,rfl,h2⟩:=jM.1 hy
  have e1:=(lC hd h1).2.1
  have e2:=(lC hd h2).2.1
  rw [e,e2] at e1
  have g1:=(mP hd h1).2.2.1
  have g2:=(mP hd h2).2.2.1
  have:=(yR g2.1 g2.2 g1.1 g1.2 e1).2
  omega
 unfold List.Nodup fU
 rw [List.pairwise_flatMap]
 refine ⟨fun a ha=>hr _ (by have:=List.mem_range.1 ha;omega),(qR _).imp ?_⟩
 intro a b hab x hx y hy e
 obtain ⟨_,_,hx⟩:=nH.1 hx
 obtain ⟨_,_,hy⟩:=nH.1 hy
 obtain ⟨_,_,hx⟩:=kQ.1 hx
 obtain ⟨_,_,hy⟩:=kQ.1 hy
 obtain ⟨_,rfl,h1⟩:=jM.1 hx
 obtain ⟨_,rfl,h2⟩:=jM.1 hy
 have e1:=(lC hd h1).2.1
 have e2:=(lC hd h2).2.1
 rw [e,e2] at e1
 have g1:=(mP hd h1).2.2.1
 have g2:=(mP hd h2).2.2.1
 have:=(yR g2.1 g2.2 g1.1 g1.2 e1).1
 omega
theorem gG (d:Dev) (t:Int):dV (bA d t)=1∨dV (bA d t)=2:=by
 rcases ji d t with h|h|h <;> rw [h] <;> simp [dV]
theorem mD (d:Dev) (t:Int):1<=iC (bA d t)/\iC (bA d t)<=5:=by
 rcases ji d t with h|h|h <;> rw [h] <;> simp [iC]
theorem xX {d:Dev} {t p:Int} (ht:au d t=true) (h0:0<=p) (h1:p<dV (bA d t)):dZ d t p=t * aX d+5+p:=by rw [dZ,if_pos ⟨ht,h0,h1⟩]
theorem mQ {d:Dev} {t p:Int} (ht:au d t=true) (h0:0<=p) (h1:p<dV (bA d t)):dZ d t p / aX d=t/\dZ d t p % aX d=5+p/\0<=dZ d t p:=by
 have hp:=dw (aW.1 ht).1
 have:=gG d t
 rw [xX ht h0 h1]
 have:=l7 (a:=t * aX d+5+p) (b:=aX d) (q:=t) (r:=5+p) (by omega) (by omega) (by omega)
 have h3:=Int.mul_nonneg (aW.1 ht).2.1 (show 0<=aX d by omega)
 exact ⟨this.1,this.2,by omega⟩
theorem qU {d:Dev} {t y:Int}:y∈gW d t↔∃p,(0<=p/\p<dV (bA d t))/\y=dZ d t p:=by
 unfold gW
 have:=gG d t
 split
 ·simp only [List.mem_cons,List.not_mem_nil,or_false]
  constructor
  ·rintro (rfl|rfl)
   ·exact ⟨0,by omega,rfl⟩
   ·exact ⟨1,by omega,rfl⟩
  ·rintro ⟨p,hp,rfl⟩
   have:p=0∨p=1:=by omega
   rcases this with rfl|rfl <;> simp
 ·simp only [List.mem_cons,List.not_mem_nil,or_false]
  constructor
  ·rintro rfl
   exact ⟨0,by omega,rfl⟩
  ·rintro ⟨p,hp,rfl⟩
   have:p=0:=by omega
   rw [this]
theorem uk {d:Dev} {t pin:Int} (ht:au d t=true):(iW d t pin).Nodup:=by
 have hd:=(aW.1 ht).1
 unfold iW List.Nodup
 rw [List.pairwise_append]
 have:=gG d t
 refine ⟨?_,uj d hd t pin,?_⟩
 ·split
  ·unfold gW
   split
   ·have e0:=(mQ ht (p:=0) (by omega) (by omega)).2.1
    have e1:=(mQ ht (p:=1) (by omega) (by omega)).2.1
    simp only [List.pairwise_cons,List.mem_singleton,List.not_mem_nil,List.Pairwise.nil,and_true]
    refine ⟨?_,by simp⟩
    rintro a rfl e
    rw [e,e1] at e0
    omega
   ·simp
  ·simp
 ·intro x hx y hy e
  split at hx
  ·obtain ⟨p,hp,rfl⟩:=qU.1 hx
   obtain ⟨r,k,s,_,_,_,_,h1,h2⟩:=(qQ hd).1 hy
   have e1:=(mQ ht hp.1 hp.2).2.1
   have e2:=(lC hd (show 0<=iV d t r k s by omega))
   rw [e,h1,e2.2.1] at e1
   omega
  ·simp at hx
theorem pK {d:Dev} {n:Int} {l:List Int} (h:bH d n=true) (hn:¬(n % aX d=5∨n % aX d=6)) (hp:l.Perm (iW d (n / aX d) (n % aX d))) (hs:l.Pairwise (·<=·)):l=iE d n:=by
 have h':=h
 unfold bH at h'
 rw [Bool.and_eq_true] at h'
 rw [iE,if_pos ⟨h,hn⟩]
 exact vw hp hs (uk (jk h'.1))
end Go.Proofs.YtofihjoanjkdmaaGreat
