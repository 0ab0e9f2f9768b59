/- The routing nodes of a device in plain terms: which exist, which can drive which. -/
import Derived.Test.YtignkfhdkcgkgaaGreatEmu
namespace Go.Proofs.YtignkfhdkcgkgaaGreat
set_option maxHeartbeats 1000000
set_option maxRecDepth 100000
open Go.RowKit
def aM (d:Dev):Int:=7+4 * d.T
def kZ (k:Int):Int:=if k=0 then 1 else if k=1 then 5 else if k=2 then 4 else 0
def dS (k:Int):Int:=if k=0 then 1 else if k=1 then 2 else if k=2 then 1 else 0
def stX (d:Dev) (t r s:Int):Int:=if r=0 then t % d.W+s else if r=2 then t % d.W - s else t % d.W
def stY (d:Dev) (t r s:Int):Int:=if r=1 then t / d.W+s else if r=0 then t / d.W else if r=2 then t / d.W else t / d.W - s
def lc (d:Dev) (t r s:Int):Bool:=inR (stX d t r s) 0 (d.W - 1) && inR (stY d t r s) 0 (d.H - 1)
def ay (d:Dev) (t r s:Int):Int:=if lc d t r s=true then stY d t r s * d.W+stX d t r s else -1
def bR (k:Int):Int:=1+k % 2
def ai (d:Dev):Int:=d.W * d.H * aM d
def bI (d:Dev) (t:Int):Bool:=bO d && (decide (0<=t) && decide (t<d.W * d.H))
theorem aV {d:Dev} {t:Int}:bI d t=true↔bO d=true/\0<=t/\t<d.W * d.H:=by simp [bI]
def fE (d:Dev) (t p:Int):Int:=if bI d t=true/\0<=p/\p<dS (ah d t) then t * aM d+5+p else -1
def cO (d:Dev) (t r k:Int):Int:=if bI d t=true/\(0<=r/\r<=3)/\(0<=k/\k<d.T)/\0<=ay d t r (bR k) then t * aM d+7+r * d.T+k else -1
def sU (d:Dev) (t k:Int):Bool :=
 if k<5 then decide (k<kZ (ah d t)) else if k<7 then decide (k - 5<dS (ah d t)) else decide (0<=ay d t ((k - 7) / d.T) (bR ((k - 7) % d.T)))
def bZ (d:Dev) (n:Int):Bool:=bO d && (decide (0<=n) && decide (n<ai d))
def bS (d:Dev) (n:Int):Bool:=bZ d n && sU d (n / aM d) (n % aM d)
theorem dL {d:Dev} (h:bO d=true):9<=d.W * d.H/\d.W * d.H<=36:=by
 obtain ⟨hN,h1,h2⟩:=bT h
 omega
theorem bg {d:Dev} (h:bO d=true):11<=aM d/\aM d<=23:=by
 have:=aY h
 unfold aM
 omega
theorem jG {a b A B:Int} (h0:0<=a) (h1:a<=A) (k0:0<=b) (k1:b<=B):0<=a * b/\a * b<=A * B :=
 ⟨Int.mul_nonneg h0 k0,Int.mul_le_mul h1 k1 k0 (by omega)⟩
theorem cK {d:Dev} (h:bO d=true):99<=ai d/\ai d<=828:=by
 obtain ⟨h1,h2⟩:=dL h
 obtain ⟨h3,h4⟩:=bg h
 unfold ai
 refine ⟨?_,(jG (by omega) h2 (by omega) h4).2⟩
 have:9 * 11<=d.W * d.H * aM d:=Int.mul_le_mul h1 h3 (by omega) (by omega)
 omega
theorem nz {d:Dev} {t:Int} (h:bI d t=true):0<=t % d.W/\t % d.W<d.W/\0<=t / d.W/\t / d.W<d.H/\t=t / d.W * d.W+t % d.W:=by
 obtain ⟨hd,h0,h1⟩:=aV.1 h
 obtain ⟨w1,w2,_⟩:=aY hd
 refine ⟨Int.emod_nonneg _ (by omega),Int.emod_lt_of_pos _ (by omega),Int.ediv_nonneg h0 (by omega),?_,?_⟩
 ·exact Int.ediv_lt_of_lt_mul (by omega) (by rw [Int.mul_comm];exact h1)
 ·have:=Int.emod_add_mul_ediv t d.W
  rw [Int.mul_comm (t / d.W)]
  omega
theorem dX {d:Dev} {n:Int} (h:bZ d n=true):bO d=true/\0<=n/\n<=827/\0<=n / aM d/\n / aM d<d.W * d.H/\0<=n % aM d/\n % aM d<aM d:=by
 simp only [bZ,Bool.and_eq_true,decide_eq_true_eq] at h
 obtain ⟨hd,h0,h1⟩:=h
 have:=cK hd
 have hp:=bg hd
 exact ⟨hd,h0,by omega,Int.ediv_nonneg h0 (by omega),Int.ediv_lt_of_lt_mul (by omega) h1,Int.emod_nonneg _ (by omega),Int.emod_lt_of_pos _ (by omega)⟩
theorem gK {d:Dev} {n:Int} (h:bZ d n=true):bI d (n / aM d)=true:=by
 obtain ⟨hd,_,_,h1,h2,_⟩:=dX h
 exact aV.2 ⟨hd,h1,h2⟩
theorem nO {a b q r:Int} (h:a=q * b+r) (h0:0<=r) (h1:r<b):a / b=q/\a % b=r:=by
 subst h
 constructor
 ·rw [Int.add_comm,Int.add_mul_ediv_right _ _ (by omega),Int.ediv_eq_zero_of_lt h0 h1];omega
 ·rw [Int.add_comm,Int.add_mul_emod_self_right,Int.emod_eq_of_lt h0 h1]
theorem Dv {d:Dev} {t r s:Int} (h:lc d t r s=true):0<=stX d t r s/\stX d t r s<d.W/\0<=stY d t r s/\stY d t r s<d.H:=by
 simp only [lc,Bool.and_eq_true,ak] at h
 omega
theorem CW {d:Dev} (hd:bO d=true) {x y:Int} (hx:0<=x) (hx1:x<d.W) (hy:0<=y) (hy1:y<d.H):bI d (y * d.W+x)=true/\(y * d.W+x) % d.W=x/\(y * d.W+x) / d.W=y:=by
 obtain ⟨w1,w2,_⟩:=aY hd
 obtain ⟨e1,e2⟩:=nO (a:=y * d.W+x) rfl hx hx1
 refine ⟨aV.2 ⟨hd,?_,?_⟩,e2,e1⟩
 ·have:=Int.mul_nonneg hy (show 0<=d.W by omega);omega
 ·have:y * d.W<=(d.H - 1) * d.W:=Int.mul_le_mul_of_nonneg_right (by omega) (by omega)
  have e:(d.H - 1) * d.W=d.W * d.H - d.W:=by rw [Int.sub_mul,Int.one_mul,Int.mul_comm]
  omega
theorem lM {d:Dev} {t r s:Int} (hd:bO d=true) (h:0<=ay d t r s):lc d t r s=true/\bI d (ay d t r s)=true/\ay d t r s % d.W=stX d t r s/\ay d t r s / d.W=stY d t r s:=by
 cases hs:lc d t r s with
 | false=>rw [ay,hs] at h;simp at h
 | true =>
  rw [ay,if_pos hs]
  obtain ⟨a,b,c,e⟩:=Dv hs
  exact ⟨rfl,CW hd a b c e⟩
theorem Fg {d:Dev} {t r s:Int} (h:lc d t r s=false):ay d t r s=-1:=by rw [ay,h];simp
theorem jH {d:Dev} {t r s:Int} (hd:bO d=true):-1<=ay d t r s/\ay d t r s<d.W * d.H:=by
 have:=dL hd
 cases hs:lc d t r s with
 | false=>rw [Fg hs];omega
 | true =>
  have h0:0<=ay d t r s:=by
   rw [ay,if_pos hs]
   obtain ⟨a,_,c,_⟩:=Dv hs
   have:=Int.mul_nonneg c (show 0<=d.W by have:=aY hd;omega)
   omega
  have:=aV.1 (lM hd h0).2.1
  omega
theorem Ec {d:Dev} {t r s:Int} (ht:bI d t=true) (hr:0<=r) (hr3:r<=3) (h:0<=ay d t ((r+2) % 4) s):ay d (ay d t ((r+2) % 4) s) r s=t:=by
 have hd:=(aV.1 ht).1
 obtain ⟨_,_,ex,ey⟩:=lM hd h
 obtain ⟨x0,x1,y0,y1,et⟩:=nz ht
 have hX:stX d (ay d t ((r+2) % 4) s) r s=t % d.W:=by
  rw [stX,ex]
  have:r=0∨r=1∨r=2∨r=3:=by omega
  rcases this with rfl|rfl|rfl|rfl <;> simp [stX] <;> omega
 have hY:stY d (ay d t ((r+2) % 4) s) r s=t / d.W:=by
  rw [stY,ey]
  have:r=0∨r=1∨r=2∨r=3:=by omega
  rcases this with rfl|rfl|rfl|rfl <;> simp [stY] <;> omega
 rw [ay,lc,hX,hY,ak.2 ⟨x0,by omega⟩,ak.2 ⟨y0,by omega⟩]
 simp only [Bool.and_self,if_true]
 exact et.symm
theorem Fh {d:Dev} {t r s s':Int} (hd:bO d=true) (hr:0<=r) (hr3:r<=3) (h:0<=ay d t r s) (h':0<=ay d t r s') (e:ay d t r s=ay d t r s'):s=s':=by
 obtain ⟨_,_,ex,ey⟩:=lM hd h
 obtain ⟨_,_,ex',ey'⟩:=lM hd h'
 rw [e] at ex ey
 rw [ex] at ex'
 rw [ey] at ey'
 have:r=0∨r=1∨r=2∨r=3:=by omega
 rcases this with rfl|rfl|rfl|rfl <;> simp [stX,stY] at ex' ey' <;> omega
/-! ### ascending lists -/
def ins:List Int→Int→List Int
 | [],x=>[x]
 | y :: l,x=>if y<x then y :: ins l x else if y=x then y :: l else x :: y :: l
def asc (l:List Int):List Int:=l.foldl ins []
theorem Dw {l:List Int} {x y:Int}:y∈ins l x↔y=x∨y∈l:=by
 induction l with
 | nil=>simp [ins]
 | cons z l ih =>
  rw [ins]
  split
  ·simp only [List.mem_cons,ih]
   constructor
   ·rintro (h|h|h) <;> simp [h]
   ·rintro (h|h|h) <;> simp [h]
  ·split
   ·rename_i h
    subst h
    simp only [List.mem_cons]
    constructor
    ·rintro (h|h) <;> simp [h]
    ·rintro (h|h|h) <;> simp [h]
   ·simp
def Asc (l:List Int):Prop:=l.Pairwise (·<·)
theorem GY {l:List Int} {x:Int} (h:Asc l):Asc (ins l x):=by
 induction l with
 | nil=>simp [ins,Asc]
 | cons z l ih =>
  unfold Asc at *
  rw [List.pairwise_cons] at h
  rw [ins]
  split
  ·rw [List.pairwise_cons]
   refine ⟨fun y hy=>?_,ih h.2⟩
   rcases Dw.1 hy with rfl|hy
   ·assumption
   ·exact h.1 y hy
  ·split
   ·rw [List.pairwise_cons];exact h
   ·rw [List.pairwise_cons]
    refine ⟨fun y hy=>?_,List.pairwise_cons.2 h⟩
    rcases List.mem_cons.1 hy with rfl|hy
    ·omega
    ·have:=h.1 y hy;omega
theorem xZ {l:List Int}:∀{l0:List Int},Asc l0→Asc (l.foldl ins l0)/\∀y,y∈l.foldl ins l0↔y∈l0∨y∈l:=by
 induction l with
 | nil=>intro l0 h;exact ⟨h,by simp⟩
 | cons x l ih =>
  intro l0 h
  obtain ⟨h1,h2⟩:=ih (GY (x:=x) h)
  refine ⟨h1,fun y=>?_⟩
  rw [List.foldl_cons,h2,Dw,List.mem_cons]
  constructor
  ·rintro ((h|h)|h) <;> simp [h]
  ·rintro (h|h|h) <;> simp [h]
theorem yh (l:List Int):Asc (asc l):=(xZ (l:=l) (l0:=[]) (by simp [Asc])).1
theorem vE {l:List Int} {y:Int}:y∈asc l↔y∈l:=by rw [asc,(xZ (l:=l) (l0:=[]) (by simp [Asc])).2];simp
theorem rG (l:List Int) (x:Int):asc (l++[x])=ins (asc l) x:=by simp [asc]
theorem qc (l:List Int) (x:Int):(ins l x).length<=l.length+1:=by
 induction l with
 | nil=>simp [ins]
 | cons z l ih =>
  rw [ins]
  split
  ·simp;omega
  ·split <;> simp
theorem xB (l:List Int):(asc l).length<=l.length:=by
 have:∀l0:List Int,(l.foldl ins l0).length<=l0.length+l.length:=by
  induction l with
  | nil=>intro l0;simp
  | cons x l ih=>intro l0;have h1:=ih (ins l0 x);have:=qc l0 x;simp only [List.foldl_cons,List.length_cons];omega
 simpa [asc] using this []
theorem rH:∀{l m:List Int},Asc l→Asc m→(∀y,y∈l↔y∈m)→l=m
 | [],[],_,_,_=>rfl
 | [],y :: m,_,_,h=>by have:=(h y).2 (by simp);simp at this
 | x :: l,[],_,_,h=>by have:=(h x).1 (by simp);simp at this
 | x :: l,y :: m,h1,h2,h=>by
  unfold Asc at *
  rw [List.pairwise_cons] at h1 h2
  have hxy:x=y:=by
   have a:=(h x).1 (by simp)
   have b:=(h y).2 (by simp)
   rcases List.mem_cons.1 a with a|a
   ·exact a
   ·rcases List.mem_cons.1 b with b|b
    ·exact b.symm
    ·have:=h1.1 y b
     have:=h2.1 x a
     omega
  subst hxy
  rw [rH (l:=l) (m:=m) h1.2 h2.2 fun z=>?_]
  constructor
  ·intro hz
   have:=(h z).1 (by simp [hz])
   rcases List.mem_cons.1 this with rfl|this
   ·have:=h1.1 z hz;omega
   ·exact this
  ·intro hz
   have:=(h z).2 (by simp [hz])
   rcases List.mem_cons.1 this with rfl|this
   ·have:=h2.1 z hz;omega
   ·exact this
theorem CX {l m:List Int} (hp:l.Perm m) (hs:l.Pairwise (·<=·)) (hn:m.Nodup):l=asc m:=by
 have hn':l.Pairwise (·≠·):=hp.nodup_iff.2 hn
 refine rH ?_ (yh _) fun y=>by rw [vE];exact hp.mem_iff
 unfold Asc
 exact (hs.and hn').imp fun ⟨a,b⟩=>by omega
theorem Ed {l m:List Int} (h:∀y,y∈l↔y∈m):asc l=asc m:=rH (yh _) (yh _) fun y=>by rw [vE,vE];exact h y
/-! ### the sources of a node -/
def ic (d:Dev) (t r k s:Int):Int:=cO d (ay d t ((r+2) % 4) s) r k
def kr (x:Int):List Int:=if 0<=x then [x] else []
theorem qL {x y:Int}:y∈kr x↔y=x/\0<=x:=by unfold kr;split <;> simp [*]
def uB (d:Dev) (pin k:Int):Bool:=!(decide (d.T>1) && decide ((k+pin) % 2=1))
def vF (d:Dev) (dir track r k s:Int):Bool:=decide (r≠(dir+2) % 4) && ((decide (k=track) || decide (k=(track+1) % d.T)) && decide (s=bR k))
def kQ (d:Dev) (pin r k s:Int):Bool:=if 7<=pin then vF d ((pin - 7) / d.T) ((pin - 7) % d.T) r k s else uB d pin k
def kR (d:Dev) (t pin r k s:Int):List Int:=if kQ d pin r k s=true then kr (ic d t r k s) else []
def fZ (d:Dev) (t pin r k:Int) (s:Nat):List Int:=(List.range s).flatMap fun (j:Nat)=>kR d t pin r k ((j:Int)+1)
def gZ (d:Dev) (t pin r:Int) (k:Nat):List Int:=(List.range k).flatMap fun (j:Nat)=>fZ d t pin r (j:Int) (bR (j:Int)).toNat
def fF (d:Dev) (t pin:Int) (r:Nat):List Int:=(List.range r).flatMap fun (j:Nat)=>gZ d t pin (j:Int) d.T.toNat
def gL (d:Dev) (t:Int):List Int:=if dS (ah d t)>1 then [fE d t 0,fE d t 1] else [fE d t 0]
def iP (d:Dev) (t pin:Int):List Int:=(if 7<=pin then gL d t else [])++fF d t pin 4
def jg (d:Dev) (n:Int):List Int:=if bS d n=true/\¬(n % aM d=5∨n % aM d=6) then asc (iP d (n / aM d) (n % aM d)) else []
theorem mU {d:Dev} {t r k s:Int} (_hd:bO d=true) (h:0<=ic d t r k s) :
  bI d (ay d t ((r+2) % 4) s)=true/\(0<=r/\r<=3)/\(0<=k/\k<d.T)/\0<=ay d (ay d t ((r+2) % 4) s) r (bR k)/\ic d t r k s=ay d t ((r+2) % 4) s * aM d+(7+r * d.T+k):=by
 unfold ic at h ⊢
 unfold cO at h ⊢
 split at h
 ·rename_i hc
  rw [if_pos hc]
  exact ⟨hc.1,hc.2.1,hc.2.2.1,hc.2.2.2,by omega⟩
 ·omega
theorem kS {d:Dev} {t r k s:Int} (hd:bO d=true) (h:0<=ic d t r k s):ic d t r k s / aM d=ay d t ((r+2) % 4) s/\ic d t r k s % aM d=7+r * d.T+k/\7<=7+r * d.T+k:=by
 obtain ⟨h1,⟨r0,r1⟩,⟨k0,k1⟩,_,e⟩:=mU hd h
 have hT:=aY hd
 have hm:=jG r0 r1 (show 0<=d.T by omega) (Int.le_refl d.T)
 have:=nO (b:=aM d) e (by omega) (by unfold aM;omega)
 exact ⟨this.1,this.2,by omega⟩
theorem Fq {T r k r' k':Int} (k0:0<=k) (k1:k<T) (k0':0<=k') (k1':k'<T) (e:7+r * T+k=7+r' * T+k'):r=r'/\k=k':=by
 have h1:=nO (a:=r * T+k) rfl k0 k1
 have h2:=nO (a:=r' * T+k') rfl k0' k1'
 have e':r * T+k=r' * T+k':=by omega
 rw [e'] at h1
 exact ⟨h1.1.symm.trans h2.1,h1.2.symm.trans h2.2⟩
theorem jP {d:Dev} {t pin r k s y:Int}:y∈kR d t pin r k s↔kQ d pin r k s=true/\y=ic d t r k s/\0<=ic d t r k s:=by
 unfold kR
 split
 ·rename_i h;rw [qL];simp [h]
 ·rename_i h;simp [h]
theorem lQ {d:Dev} {t pin r k y:Int} {s:Nat}:y∈fZ d t pin r k s↔∃j,j<s/\y∈kR d t pin r k ((j:Int)+1):=by simp [fZ]
theorem qM {d:Dev} {t pin r y:Int} {k:Nat}:y∈gZ d t pin r k↔∃j,j<k/\y∈fZ d t pin r (j:Int) (bR (j:Int)).toNat:=by simp [gZ]
theorem Ee {d:Dev} {t pin y:Int} {r:Nat}:y∈fF d t pin r↔∃j,j<r/\y∈gZ d t pin (j:Int) d.T.toNat:=by simp [fF]
theorem rJ {d:Dev} {t pin y:Int} (_hd:bO d=true):y∈fF d t pin 4↔∃r k s:Int,(0<=r/\r<=3)/\(0<=k/\k<d.T)/\(1<=s/\s<=bR k)/\kQ d pin r k s=true/\y=ic d t r k s/\0<=y:=by
 rw [Ee]
 constructor
 ·rintro ⟨r,hr,h⟩
  obtain ⟨k,hk,h⟩:=qM.1 h
  obtain ⟨s,hs,h⟩:=lQ.1 h
  obtain ⟨h1,h2,h3⟩:=jP.1 h
  exact ⟨r,k,(s:Int)+1,by omega,by omega,by omega,h1,h2,by omega⟩
 ·rintro ⟨r,k,s,hr,hk,hs,h1,h2,h3⟩
  refine ⟨r.toNat,by omega,qM.2 ⟨k.toNat,by omega,lQ.2 ⟨(s - 1).toNat,by rw [show ((k.toNat:Nat):Int)=k by omega];omega,jP.2 ?_⟩⟩⟩
  rw [show ((r.toNat:Nat):Int)=r by omega,show ((k.toNat:Nat):Int)=k by omega,show (((s - 1).toNat:Nat):Int)+1=s by omega]
  exact ⟨h1,h2,by omega⟩
theorem AZ (d:Dev) (t pin r k s:Int):(kR d t pin r k s).Nodup:=by
 unfold kR kr
 split
 ·split <;> simp
 ·simp
theorem vv (n:Nat):(List.range n).Pairwise (·≠·):=List.nodup_range
theorem Aa (d:Dev) (hd:bO d=true) (t pin:Int):(fF d t pin 4).Nodup:=by
 have hk:∀r k:Int,0<=r/\r<=3→∀s:Nat,(fZ d t pin r k s).Nodup:=by
  intro r k hr s
  unfold List.Nodup fZ
  rw [List.pairwise_flatMap]
  refine ⟨fun a _=>AZ _ _ _ _ _ _,(vv _).imp ?_⟩
  intro a b hab x hx y hy e
  obtain ⟨_,rfl,h1⟩:=jP.1 hx
  obtain ⟨_,rfl,h2⟩:=jP.1 hy
  have e1:=(kS hd h1).1
  have e2:=(kS hd h2).1
  rw [e,e2] at e1
  have g1:=(aV.1 (mU hd h1).1).2.1
  have g2:=(aV.1 (mU hd h2).1).2.1
  have:=Fh hd (by omega) (by omega) g2 g1 e1
  omega
 have hr:∀r:Int,0<=r/\r<=3→(gZ d t pin r d.T.toNat).Nodup:=by
  intro r hr
  unfold List.Nodup gZ
  rw [List.pairwise_flatMap]
  refine ⟨fun a _=>hk _ _ hr _,(vv _).imp ?_⟩
  intro a b hab x hx y hy e
  obtain ⟨_,_,hx⟩:=lQ.1 hx
  obtain ⟨_,_,hy⟩:=lQ.1 hy
  obtain ⟨_,rfl,h1⟩:=jP.1 hx
  obtain ⟨_,rfl,h2⟩:=jP.1 hy
  have e1:=(kS hd h1).2.1
  have e2:=(kS hd h2).2.1
  rw [e,e2] at e1
  have g1:=(mU hd h1).2.2.1
  have g2:=(mU hd h2).2.2.1
  have:=(Fq g2.1 g2.2 g1.1 g1.2 e1).2
  omega
 unfold List.Nodup fF
 rw [List.pairwise_flatMap]
 refine ⟨fun a ha=>hr _ (by have:=List.mem_range.1 ha;omega),(vv _).imp ?_⟩
 intro a b hab x hx y hy e
 obtain ⟨_,_,hx⟩:=qM.1 hx
 obtain ⟨_,_,hy⟩:=qM.1 hy
 obtain ⟨_,_,hx⟩:=lQ.1 hx
 obtain ⟨_,_,hy⟩:=lQ.1 hy
 obtain ⟨_,rfl,h1⟩:=jP.1 hx
 obtain ⟨_,rfl,h2⟩:=jP.1 hy
 have e1:=(kS hd h1).2.1
 have e2:=(kS hd h2).2.1
 rw [e,e2] at e1
 have g1:=(mU hd h1).2.2.1
 have g2:=(mU hd h2).2.2.1
 have:=(Fq g2.1 g2.2 g1.1 g1.2 e1).1
 omega
theorem gG (d:Dev) (t:Int):dS (ah d t)=1∨dS (ah d t)=2:=by
 rcases df d t with h|h|h <;> rw [h] <;> simp [dS]
theorem xe (d:Dev) (t:Int):1<=kZ (ah d t)/\kZ (ah d t)<=5:=by
 rcases df d t with h|h|h <;> rw [h] <;> simp [kZ]
theorem xf {d:Dev} {t p:Int} (ht:bI d t=true) (h0:0<=p) (h1:p<dS (ah d t)):fE d t p=t * aM d+5+p:=by rw [fE,if_pos ⟨ht,h0,h1⟩]
theorem lg {d:Dev} {t p:Int} (ht:bI d t=true) (h0:0<=p) (h1:p<dS (ah d t)):fE d t p / aM d=t/\fE d t p % aM d=5+p/\0<=fE d t p:=by
 have hp:=bg (aV.1 ht).1
 have:=gG d t
 rw [xf ht h0 h1]
 have:=nO (a:=t * aM d+5+p) (b:=aM d) (q:=t) (r:=5+p) (by omega) (by omega) (by omega)
 have h3:=Int.mul_nonneg (aV.1 ht).2.1 (show 0<=aM d by omega)
 exact ⟨this.1,this.2,by omega⟩
theorem rM {d:Dev} {t y:Int}:y∈gL d t↔∃p,(0<=p/\p<dS (ah d t))/\y=fE d t p:=by
 unfold gL
 have:=gG d t
 split
 ·simp only [List.mem_cons,List.not_mem_nil,or_false]
  constructor
  ·rintro (rfl|rfl)
   ·exact ⟨0,by omega,rfl⟩
   ·exact ⟨1,by omega,rfl⟩
  ·rintro ⟨p,hp,rfl⟩
   have:p=0∨p=1:=by omega
   rcases this with rfl|rfl <;> simp
 ·simp only [List.mem_cons,List.not_mem_nil,or_false]
  constructor
  ·rintro rfl
   exact ⟨0,by omega,rfl⟩
  ·rintro ⟨p,hp,rfl⟩
   have:p=0:=by omega
   rw [this]
theorem Ab {d:Dev} {t pin:Int} (ht:bI d t=true):(iP d t pin).Nodup:=by
 have hd:=(aV.1 ht).1
 unfold iP List.Nodup
 rw [List.pairwise_append]
 have:=gG d t
 refine ⟨?_,Aa d hd t pin,?_⟩
 ·split
  ·unfold gL
   split
   ·have e0:=(lg ht (p:=0) (by omega) (by omega)).2.1
    have e1:=(lg ht (p:=1) (by omega) (by omega)).2.1
    simp only [List.pairwise_cons,List.mem_singleton,List.not_mem_nil,List.Pairwise.nil,and_true]
    refine ⟨?_,by simp⟩
    rintro a rfl e
    rw [e,e1] at e0
    omega
   ·simp
  ·simp
 ·intro x hx y hy e
  split at hx
  ·obtain ⟨p,hp,rfl⟩:=rM.1 hx
   obtain ⟨r,k,s,_,_,_,_,h1,h2⟩:=(rJ hd).1 hy
   have e1:=(lg ht hp.1 hp.2).2.1
   have e2:=(kS hd (show 0<=ic d t r k s by omega))
   rw [e,h1,e2.2.1] at e1
   omega
  ·simp at hx
theorem uU {d:Dev} {n:Int} {l:List Int} (h:bS d n=true) (hn:¬(n % aM d=5∨n % aM d=6)) (hp:l.Perm (iP d (n / aM d) (n % aM d))) (hs:l.Pairwise (·<=·)):l=jg d n:=by
 have h':=h
 unfold bS at h'
 rw [Bool.and_eq_true] at h'
 rw [jg,if_pos ⟨h,hn⟩]
 exact CX hp hs (Ab (gK h'.1))
theorem Ad (k:Int) (w:World) :
  Calls Tryz.prog 193 #[.int .i64 k] w fun e w'=>e = .returned (.int .i64 (kZ k))/\w=w':=by
 by_cases h0:k=0
 ·subst h0
  go_enter Tryz.func193,Tryz.ntmps193
  go_wp2
  go_ret
  exact ⟨rfl,rfl⟩
 by_cases h1:k=1
 ·subst h1
  go_enter Tryz.func193,Tryz.ntmps193
  go_wp2
  go_ret
  exact ⟨rfl,rfl⟩
 by_cases h2:k=2
 ·subst h2
  go_enter Tryz.func193,Tryz.ntmps193
  go_wp2
  go_ret
  exact ⟨rfl,rfl⟩
 have e0:(k==0)=false:=by simpa using h0
 have e1:(k==1)=false:=by simpa using h1
 have e2:(k==2)=false:=by simpa using h2
 go_enter Tryz.func193,Tryz.ntmps193
 go_wp2
 go_ret
 exact ⟨aP (by simp [kZ,h0,h1,h2]),rfl⟩
theorem Ae (k:Int) (w:World) :
  Calls Tryz.prog 222 #[.int .i64 k] w fun e w'=>e = .returned (.int .i64 (kZ k))/\w=w':=by
 by_cases h0:k=0
 ·subst h0
  go_enter Tryz.func222,Tryz.ntmps222
  go_wp2
  go_ret
  exact ⟨rfl,rfl⟩
 by_cases h1:k=1
 ·subst h1
  go_enter Tryz.func222,Tryz.ntmps222
  go_wp2
  go_ret
  exact ⟨rfl,rfl⟩
 by_cases h2:k=2
 ·subst h2
  go_enter Tryz.func222,Tryz.ntmps222
  go_wp2
  go_ret
  exact ⟨rfl,rfl⟩
 have e0:(k==0)=false:=by simpa using h0
 have e1:(k==1)=false:=by simpa using h1
 have e2:(k==2)=false:=by simpa using h2
 go_enter Tryz.func222,Tryz.ntmps222
 go_wp2
 go_ret
 exact ⟨aP (by simp [kZ,h0,h1,h2]),rfl⟩
theorem sV (k:Int) (w:World) :
  Calls Tryz.prog 194 #[.int .i64 k] w fun e w'=>e = .returned (.int .i64 (dS k))/\w=w':=by
 by_cases h0:k=0
 ·subst h0
  go_enter Tryz.func194,Tryz.ntmps194
  go_wp2
  go_ret
  exact ⟨rfl,rfl⟩
 by_cases h1:k=1
 ·subst h1
  go_enter Tryz.func194,Tryz.ntmps194
  go_wp2
  go_ret
  exact ⟨rfl,rfl⟩
 by_cases h2:k=2
 ·subst h2
  go_enter Tryz.func194,Tryz.ntmps194
  go_wp2
  go_ret
  exact ⟨rfl,rfl⟩
 have e0:(k==0)=false:=by simpa using h0
 have e1:(k==1)=false:=by simpa using h1
 have e2:(k==2)=false:=by simpa using h2
 go_enter Tryz.func194,Tryz.ntmps194
 go_wp2
 go_ret
 exact ⟨aP (by simp [dS,h0,h1,h2]),rfl⟩
theorem oC (k:Int) (w:World) :
  Calls Tryz.prog 187 #[.int .i64 k] w fun e w'=>e = .returned (.int .i64 (dS k))/\w=w':=by
 by_cases h0:k=0
 ·subst h0
  go_enter Tryz.func187,Tryz.ntmps187
  go_wp2
  go_ret
  exact ⟨rfl,rfl⟩
 by_cases h1:k=1
 ·subst h1
  go_enter Tryz.func187,Tryz.ntmps187
  go_wp2
  go_ret
  exact ⟨rfl,rfl⟩
 by_cases h2:k=2
 ·subst h2
  go_enter Tryz.func187,Tryz.ntmps187
  go_wp2
  go_ret
  exact ⟨rfl,rfl⟩
 have e0:(k==0)=false:=by simpa using h0
 have e1:(k==1)=false:=by simpa using h1
 have e2:(k==2)=false:=by simpa using h2
 go_enter Tryz.func187,Tryz.ntmps187
 go_wp2
 go_ret
 exact ⟨aP (by simp [dS,h0,h1,h2]),rfl⟩
theorem dI (k:Int) (w:World) (h0:0<=k) (h1:k<=1099511627776) :
  Calls Tryz.prog 197 #[.int .i64 k] w fun e w'=>e = .returned (.int .i64 (bR k))/\w=w':=by
 unfold bR
 go_enter Tryz.func197,Tryz.ntmps197
 go_wp2
 go_ret
 exact ⟨rfl,rfl⟩
theorem CY (d:Dev) (t:Int) (w:World) :
  Calls Tryz.prog 232 #[.agg #[.int .i64 d.W,.int .i64 d.H,.int .i64 d.T,.int .i64 d.R],.int .i64 t] w fun e w'=>e = .returned (.bool (bI d t))/\Below w.heap.size w w':=by
 go_enter Tryz.func232,Tryz.ntmps232
 go_wp2_with fail
 refine (fB d _).mono ?_
 rintro e w1 ⟨rfl,b1⟩
 have B1:=Hd (aA (aB (Below.refl _ _) _) b1)
 obtain ⟨hcc,hff⟩:=aO b1
 clear b1
 cases hd:bO d with
 | false =>
  have HD:=Hd hd
  clear hd
  go_wp2_with fail
  go_ret
  exact ⟨aH (by simp [bI,HD.out]),B1.out⟩
 | true =>
  obtain ⟨hN,hN1,hN2⟩:=bT hd
  have HD:=Hd hd
  have HN:=Hd hN
  clear hd
  go_wp2_with (go_at_call 116;refine (aN _ _ _ _).mono ?_;rintro e w' ⟨rfl,rfl⟩)
  go_ret
  refine ⟨aH ?_,B1.out⟩
  rw [Bool.eq_iff_iff,ak,aV,HD.out,HN.out]
  simp only [true_and]
  omega
theorem bQ {n lo hi:Int} {b:Bool} (h:inR n lo hi=b) (w:World):Calls Tryz.prog 116 #[.int .i64 n,.int .i64 lo,.int .i64 hi] w fun e w'=>e = .returned (.bool b)/\w=w':=by
 have:=aN n lo hi w
 rwa [h] at this
theorem IA {d:Dev} {t r s:Int} (ht:bI d t=true) (h0:0<=s) (h1:s<=6):-6<=stX d t r s/\stX d t r s<=12/\-6<=stY d t r s/\stY d t r s<=12:=by
 obtain ⟨a,b,c,e,_⟩:=nz ht
 have:=aY (aV.1 ht).1
 unfold stX stY
 refine ⟨?_,?_,?_,?_⟩ <;> repeat' split
 all_goals omega
theorem yj (d:Dev) (t r s:Int) (w:World) (ht:bI d t=true) (h0:0<=s) (h1:s<=6) :
  Calls Tryz.prog 196 #[.agg #[.int .i64 d.W,.int .i64 d.H,.int .i64 d.T,.int .i64 d.R],.int .i64 t,.int .i64 r,.int .i64 s] w fun e w'=>e = .returned (.int .i64 (ay d t r s))/\Below w.heap.size w w':=by
 have hd:=(aV.1 ht).1
 have ht0:=(aV.1 ht).2.1
 have ht1:=(aV.1 ht).2.2
 have hWH:=dL hd
 obtain ⟨hw1,hw2,hh1,hh2,_⟩:=aY hd
 obtain ⟨x0,x1,y0,y1,-⟩:=nz ht
 have hst:=IA (r:=r) ht h0 h1
 have e0:¬d.W=0:=by omega
 have e1:t.tmod d.W=t % d.W:=Int.tmod_eq_emod_of_nonneg ht0
 have e2:IntKind.i64.wrap (t.tdiv d.W)=t / d.W:=IntWalk.i64_quo _ _ ⟨ht0,by omega,by omega⟩
 have HS:=Hd (show lc d t r s=(inR (stX d t r s) 0 (d.W - 1) && inR (stY d t r s) 0 (d.H - 1)) from rfl)
 have HT:=Hd (show ay d t r s=if lc d t r s=true then stY d t r s * d.W+stX d t r s else -1 from rfl)
 have HX:Hid (stX d t r s=if r=0 then t % d.W+s else if r=2 then t % d.W - s else t % d.W):=rfl
 have HY:Hid (stY d t r s=if r=1 then t / d.W+s else if r=0 then t / d.W else if r=2 then t / d.W else t / d.W - s):=rfl
 have HM:=Hd (fun (h:0<=stY d t r s/\stY d t r s<=d.H - 1)=>jG h.1 (show stY d t r s<=5 by omega) (show 0<=d.W by omega) (show d.W<=6 by omega))
 generalize stX d t r s=X at *
 generalize stY d t r s=Y at *
 generalize ay d t r s=P at *
 generalize lc d t r s=B at *
 clear ht hd
 have hcase:r=0∨r=1∨r=2∨(¬r=0/\¬r=1/\¬r=2):=by omega
 have hX1:(r=0→X=t % d.W+s)/\(r=2→X=t % d.W - s)/\(¬r=0/\¬r=2→X=t % d.W):=by
  rw [HX.out]
  refine ⟨fun h=>if_pos h,fun h=>by rw [if_neg (by omega),if_pos h],fun h=>by rw [if_neg h.1,if_neg h.2]⟩
 have hY1:(r=1→Y=t / d.W+s)/\(r=0∨r=2→Y=t / d.W)/\(¬r=0/\¬r=1/\¬r=2→Y=t / d.W - s):=by
  rw [HY.out]
  refine ⟨fun h=>if_pos h,fun h=>?_,fun h=>by rw [if_neg h.2.1,if_neg h.1,if_neg h.2.2]⟩
  rcases h with h|h
  ·rw [if_neg (by omega),if_pos h]
  ·rw [if_neg (by omega),if_neg (by omega),if_pos h]
 clear HX HY
 rcases hcase with h|h|h|⟨g0,g1,g2⟩
 ·obtain rfl:=hX1.1 h
  obtain rfl:=hY1.2.1 (.inl h)
  subst h
  clear hX1 hY1
  go_enter Tryz.func196,Tryz.ntmps196
  go_wp2_with fail
  go_quiet (fail)
  clear e1 e2
  cases hX:inR (t % d.W+s) 0 (d.W - 1) with
  | false =>
   have HXX:=Hd hX
   clear hX
   go_wp2_with (go_at_call 116;refine (bQ HXX.out _).mono ?_;rintro e w' ⟨rfl,rfl⟩)
   go_ret
   exact ⟨aP (by rw [HT.out,HS.out,HXX.out];rfl),aZ (aB (Below.refl _ _) _) _⟩
  | true =>
   have HXX:=Hd hX
   clear hX
   cases hY:inR (t / d.W) 0 (d.H - 1) with
   | false =>
    have HYY:=Hd hY
    clear hY
    go_wp2_with (go_at_call 116;(first|((with_reducible refine (bQ HXX.out _).mono ?_);rintro e w' ⟨rfl,rfl⟩)|((with_reducible refine (bQ HYY.out _).mono ?_);rintro e w' ⟨rfl,rfl⟩)))
    go_ret
    exact ⟨aP (by rw [HT.out,HS.out,HXX.out,HYY.out];rfl),aZ (aB (Below.refl _ _) _) _⟩
   | true =>
    have HYY:=Hd hY
    have hM:=HM.out (ak.1 hY)
    have hx2:=(ak.1 HXX.out)
    clear hY
    go_wp2_with (go_at_call 116;(first|((with_reducible refine (bQ HXX.out _).mono ?_);rintro e w' ⟨rfl,rfl⟩)|((with_reducible refine (bQ HYY.out _).mono ?_);rintro e w' ⟨rfl,rfl⟩)))
    go_ret
    exact ⟨aP (by rw [HT.out,HS.out,HXX.out,HYY.out];first|rfl|(simp;done)|(simp;omega)),aZ (aB (Below.refl _ _) _) _⟩
 ·obtain rfl:=hX1.2.2 ⟨by omega,by omega⟩
  obtain rfl:=hY1.1 h
  subst h
  clear hX1 hY1
  go_enter Tryz.func196,Tryz.ntmps196
  go_wp2_with fail
  go_quiet (fail)
  clear e1 e2
  cases hX:inR (t % d.W) 0 (d.W - 1) with
  | false =>
   have HXX:=Hd hX
   clear hX
   go_wp2_with (go_at_call 116;refine (bQ HXX.out _).mono ?_;rintro e w' ⟨rfl,rfl⟩)
   go_ret
   exact ⟨aP (by rw [HT.out,HS.out,HXX.out];rfl),aZ (aB (Below.refl _ _) _) _⟩
  | true =>
   have HXX:=Hd hX
   clear hX
   cases hY:inR (t / d.W+s) 0 (d.H - 1) with
   | false =>
    have HYY:=Hd hY
    clear hY
    go_wp2_with (go_at_call 116;(first|((with_reducible refine (bQ HXX.out _).mono ?_);rintro e w' ⟨rfl,rfl⟩)|((with_reducible refine (bQ HYY.out _).mono ?_);rintro e w' ⟨rfl,rfl⟩)))
    go_ret
    exact ⟨aP (by rw [HT.out,HS.out,HXX.out,HYY.out];rfl),aZ (aB (Below.refl _ _) _) _⟩
   | true =>
    have HYY:=Hd hY
    have hM:=HM.out (ak.1 hY)
    have hx2:=(ak.1 HXX.out)
    clear hY
    go_wp2_with (go_at_call 116;(first|((with_reducible refine (bQ HXX.out _).mono ?_);rintro e w' ⟨rfl,rfl⟩)|((with_reducible refine (bQ HYY.out _).mono ?_);rintro e w' ⟨rfl,rfl⟩)))
    go_ret
    exact ⟨aP (by rw [HT.out,HS.out,HXX.out,HYY.out];first|rfl|(simp;done)|(simp;omega)),aZ (aB (Below.refl _ _) _) _⟩
 ·obtain rfl:=hX1.2.1 h
  obtain rfl:=hY1.2.1 (.inr h)
  subst h
  clear hX1 hY1
  go_enter Tryz.func196,Tryz.ntmps196
  go_wp2_with fail
  go_quiet (fail)
  clear e1 e2
  cases hX:inR (t % d.W - s) 0 (d.W - 1) with
  | false =>
   have HXX:=Hd hX
   clear hX
   go_wp2_with (go_at_call 116;refine (bQ HXX.out _).mono ?_;rintro e w' ⟨rfl,rfl⟩)
   go_ret
   exact ⟨aP (by rw [HT.out,HS.out,HXX.out];rfl),aZ (aB (Below.refl _ _) _) _⟩
  | true =>
   have HXX:=Hd hX
   clear hX
   cases hY:inR (t / d.W) 0 (d.H - 1) with
   | false =>
    have HYY:=Hd hY
    clear hY
    go_wp2_with (go_at_call 116;(first|((with_reducible refine (bQ HXX.out _).mono ?_);rintro e w' ⟨rfl,rfl⟩)|((with_reducible refine (bQ HYY.out _).mono ?_);rintro e w' ⟨rfl,rfl⟩)))
    go_ret
    exact ⟨aP (by rw [HT.out,HS.out,HXX.out,HYY.out];rfl),aZ (aB (Below.refl _ _) _) _⟩
   | true =>
    have HYY:=Hd hY
    have hM:=HM.out (ak.1 hY)
    have hx2:=(ak.1 HXX.out)
    clear hY
    go_wp2_with (go_at_call 116;(first|((with_reducible refine (bQ HXX.out _).mono ?_);rintro e w' ⟨rfl,rfl⟩)|((with_reducible refine (bQ HYY.out _).mono ?_);rintro e w' ⟨rfl,rfl⟩)))
    go_ret
    exact ⟨aP (by rw [HT.out,HS.out,HXX.out,HYY.out];first|rfl|(simp;done)|(simp;omega)),aZ (aB (Below.refl _ _) _) _⟩
 ·obtain rfl:=hX1.2.2 ⟨g0,g2⟩
  obtain rfl:=hY1.2.2 ⟨g0,g1,g2⟩
  clear hX1 hY1
  have q0:(r==0)=false:=by simpa using g0
  have q1:(r==1)=false:=by simpa using g1
  have q2:(r==2)=false:=by simpa using g2
  clear g0 g1 g2
  go_enter Tryz.func196,Tryz.ntmps196
  go_wp2_with fail
  go_quiet (fail)
  clear e1 e2
  cases hX:inR (t % d.W) 0 (d.W - 1) with
  | false =>
   have HXX:=Hd hX
   clear hX
   go_wp2_with (go_at_call 116;refine (bQ HXX.out _).mono ?_;rintro e w' ⟨rfl,rfl⟩)
   go_ret
   exact ⟨aP (by rw [HT.out,HS.out,HXX.out];rfl),aZ (aB (Below.refl _ _) _) _⟩
  | true =>
   have HXX:=Hd hX
   clear hX
   cases hY:inR (t / d.W - s) 0 (d.H - 1) with
   | false =>
    have HYY:=Hd hY
    clear hY
    go_wp2_with (go_at_call 116;(first|((with_reducible refine (bQ HXX.out _).mono ?_);rintro e w' ⟨rfl,rfl⟩)|((with_reducible refine (bQ HYY.out _).mono ?_);rintro e w' ⟨rfl,rfl⟩)))
    go_ret
    exact ⟨aP (by rw [HT.out,HS.out,HXX.out,HYY.out];rfl),aZ (aB (Below.refl _ _) _) _⟩
   | true =>
    have HYY:=Hd hY
    have hM:=HM.out (ak.1 hY)
    have hx2:=(ak.1 HXX.out)
    clear hY
    go_wp2_with (go_at_call 116;(first|((with_reducible refine (bQ HXX.out _).mono ?_);rintro e w' ⟨rfl,rfl⟩)|((with_reducible refine (bQ HYY.out _).mono ?_);rintro e w' ⟨rfl,rfl⟩)))
    go_ret
    exact ⟨aP (by rw [HT.out,HS.out,HXX.out,HYY.out];first|rfl|(simp;done)|(simp;omega)),aZ (aB (Below.refl _ _) _) _⟩
theorem eH (d:Dev) (w:World) (h0:0<=d.T) (h1:d.T<=1099511627776) :
  Calls Tryz.prog 76 #[.agg #[.int .i64 d.W,.int .i64 d.H,.int .i64 d.T,.int .i64 d.R]] w fun e w'=>e = .returned (.int .i64 (aM d))/\Below w.heap.size w w':=by
 unfold aM
 go_enter Tryz.func76,Tryz.ntmps76
 go_wp2
 go_ret
 exact ⟨rfl,aB (Below.refl _ _) _⟩
theorem lh (d:Dev) (w:World) (hd:bO d=true) :
  Calls Tryz.prog 140 #[.agg #[.int .i64 d.W,.int .i64 d.H,.int .i64 d.T,.int .i64 d.R]] w fun e w'=>e = .returned (.int .i64 (ai d))/\Below w.heap.size w w':=by
 have hT:=aY hd
 have hWH:=dL hd
 have hp:=bg hd
 have hn:=cK hd
 have HN:=Hd (show ai d=d.W * d.H * aM d from rfl)
 rw [HN.out] at hn
 have hD:Below (w.alloc (.cells #[.int .i64 d.W,.int .i64 d.H,.int .i64 d.T,.int .i64 d.R] 25)).heap.size (w.alloc (.cells #[.int .i64 d.W,.int .i64 d.H,.int .i64 d.T,.int .i64 d.R] 25)) (w.alloc (.cells #[.int .i64 d.W,.int .i64 d.H,.int .i64 d.T,.int .i64 d.R] 25)):=Below.refl _ _
 go_enter Tryz.func140,Tryz.ntmps140
 go_wp2_with fail
 go_region_held3 (fun w'=>Below (w.alloc (.cells #[.int .i64 d.W,.int .i64 d.H,.int .i64 d.T,.int .i64 d.R] 25)).heap.size (w.alloc (.cells #[.int .i64 d.W,.int .i64 d.H,.int .i64 d.T,.int .i64 d.R] 25)) w'/\∀b o,b<(w.alloc (.cells #[.int .i64 d.W,.int .i64 d.H,.int .i64 d.T,.int .i64 d.R] 25)).heap.size→w'.cell? ⟨b,o,none⟩=(w.alloc (.cells #[.int .i64 d.W,.int .i64 d.H,.int .i64 d.T,.int .i64 d.R] 25)).cell? ⟨b,o,none⟩)
  (first|exact ⟨hD,(aO hD).1⟩|exact ⟨hD.drew,(aO hD.drew).1⟩)
  (first
   | (go_at_call 76;(with_reducible refine (eH d _ (by omega) (by omega)).mono ?_);rintro e w2 ⟨rfl,b2⟩;(first|(with_reducible replace hD:=aA hD b2)|(with_reducible replace hD:=aA hD.drew b2));clear b2))
 all_goals
  go_wp2_with fail
  go_ret
  exact ⟨aP (by rw [IntWalk.i64_in (d.W * d.H) (by omega),IntWalk.i64_in _ (by omega),HN.out]),aA (aB (Below.refl _ _) _) hD⟩
theorem fD (d:Dev) (n:Int) (w:World) (hn:bZ d n=true) :
  Calls Tryz.prog 117 #[.agg #[.int .i64 d.W,.int .i64 d.H,.int .i64 d.T,.int .i64 d.R],.int .i64 n] w fun e w'=>e = .returned (.tuple #[.int .i64 (n / aM d),.int .i64 (n % aM d)])/\Below w.heap.size w w':=by
 obtain ⟨hd,n0,n1,hq0,hq1,hr0,hr1⟩:=dX hn
 have hT:=aY hd
 have hWH:=dL hd
 have hp:=bg hd
 have e0:¬aM d=0:=by omega
 have e1:n.tmod (aM d)=n % aM d:=Int.tmod_eq_emod_of_nonneg n0
 have e2:IntKind.i64.wrap (n.tdiv (aM d))=n / aM d:=IntWalk.i64_quo _ _ ⟨n0,by omega,by omega⟩
 have hD:Below (w.alloc (.cells #[.int .i64 d.W,.int .i64 d.H,.int .i64 d.T,.int .i64 d.R] 25)).heap.size (w.alloc (.cells #[.int .i64 d.W,.int .i64 d.H,.int .i64 d.T,.int .i64 d.R] 25)) (w.alloc (.cells #[.int .i64 d.W,.int .i64 d.H,.int .i64 d.T,.int .i64 d.R] 25)):=Below.refl _ _
 clear hd hn
 go_enter Tryz.func117,Tryz.ntmps117
 go_wp2_with fail
 go_region_held3 (fun w'=>Below (w.alloc (.cells #[.int .i64 d.W,.int .i64 d.H,.int .i64 d.T,.int .i64 d.R] 25)).heap.size (w.alloc (.cells #[.int .i64 d.W,.int .i64 d.H,.int .i64 d.T,.int .i64 d.R] 25)) w'/\∀b o,b<(w.alloc (.cells #[.int .i64 d.W,.int .i64 d.H,.int .i64 d.T,.int .i64 d.R] 25)).heap.size→w'.cell? ⟨b,o,none⟩=(w.alloc (.cells #[.int .i64 d.W,.int .i64 d.H,.int .i64 d.T,.int .i64 d.R] 25)).cell? ⟨b,o,none⟩)
  (first|exact ⟨hD,(aO hD).1⟩|exact ⟨hD.drew,(aO hD.drew).1⟩)
  (first
   | (go_at_call 76;(with_reducible refine (eH d _ (by omega) (by omega)).mono ?_);rintro e w2 ⟨rfl,b2⟩;(first|(with_reducible replace hD:=aA hD b2)|(with_reducible replace hD:=aA hD.drew b2));clear b2))
 all_goals
  go_wp2_with fail
  go_ret2
  exact ⟨rfl,aA (aB (Below.refl _ _) _) hD⟩
theorem vw (d:Dev) (n:Int) (w:World) (hn:bZ d n=true) (h7:7<=n % aM d) :
  Calls Tryz.prog 195 #[.agg #[.int .i64 d.W,.int .i64 d.H,.int .i64 d.T,.int .i64 d.R],.int .i64 n] w fun e w'=>e = .returned (.tuple #[.int .i64 (n / aM d),.int .i64 ((n % aM d - 7) / d.T),.int .i64 ((n % aM d - 7) % d.T),.bool true])/\Below w.heap.size w w':=by
 obtain ⟨hd,n0,n1,hq0,hq1,hr0,hr1⟩:=dX hn
 have HN:=Hd hn
 have hT:=aY hd
 have hp:=bg hd
 clear hn
 go_enter Tryz.func195,Tryz.ntmps195
 go_wp2_with fail
 refine (fD d n _ HN.out).mono ?_
 rintro e w1 ⟨rfl,b1⟩
 have hb1:=b1.size
 simp only [World.size_alloc] at hb1
 obtain ⟨hcc,hff⟩:=aO b1
 have B1:=Hd (aA (aB (Below.refl _ _) _) b1)
 clear b1
 generalize hk:n % aM d=k at *
 generalize hq:n / aM d=q at *
 have HK:=Hd hk
 have HQ:=Hd hq
 clear hk hq HN
 have e0:¬d.T=0:=by omega
 have e1:(k - 7).tmod d.T=(k - 7) % d.T:=Int.tmod_eq_emod_of_nonneg (by omega)
 have e2:IntKind.i64.wrap ((k - 7).tdiv d.T)=(k - 7) / d.T:=IntWalk.i64_quo _ _ ⟨by omega,by omega,by omega⟩
 have e3:IntKind.i64.wrap (k - 7)=k - 7:=IntWalk.i64_in _ (by omega)
 have hh:decide (k≥7)=true:=by simpa using h7
 go_wp2_with fail
 go_quiet (fail)
 go_wp2_with fail
 exact bodyPost_ret (v := .tuple #[.int .i64 q,.int .i64 ((k - 7) / d.T),.int .i64 ((k - 7) % d.T),.bool true]) (by simp [results,Tryz.results195,go_sem]) rfl ⟨by rw [HK.out,HQ.out],aZ B1.out _⟩
theorem jQ {d:Dev} {t:Int} {b:Bool} (h:bI d t=b) (w:World):Calls Tryz.prog 232 #[.agg #[.int .i64 d.W,.int .i64 d.H,.int .i64 d.T,.int .i64 d.R],.int .i64 t] w fun e w'=>e = .returned (.bool b)/\Below w.heap.size w w':=by
 have:=CY d t w
 rwa [h] at this
theorem fe {d:Dev} {t r s p:Int} (h:ay d t r s=p) (ht:bI d t=true) (h0:0<=s) (h1:s<=6) (w:World):Calls Tryz.prog 196 #[.agg #[.int .i64 d.W,.int .i64 d.H,.int .i64 d.T,.int .i64 d.R],.int .i64 t,.int .i64 r,.int .i64 s] w fun e w'=>e = .returned (.int .i64 p)/\Below w.heap.size w w':=by
 have:=yj d t r s w ht h0 h1
 rwa [h] at this
theorem Af (d:Dev) (t p:Int) (w:World) :
  Calls Tryz.prog 228 #[.agg #[.int .i64 d.W,.int .i64 d.H,.int .i64 d.T,.int .i64 d.R],.int .i64 t,.int .i64 p] w fun e w'=>e = .returned (.int .i64 (fE d t p))/\Below w.heap.size w w':=by
 have HO:Hid (fE d t p=if bI d t=true/\0<=p/\p<dS (ah d t) then t * aM d+5+p else -1):=rfl
 go_enter Tryz.func228,Tryz.ntmps228
 go_wp2_with fail
 cases ht:bI d t with
 | false =>
  refine (jQ ht _).mono ?_
  rintro e w1 ⟨rfl,b1⟩
  have B1:=Hd (aA (aB (Below.refl _ _) _) b1)
  have HT:=Hd ht
  clear b1 ht
  go_wp2_with fail
  go_ret
  exact ⟨aP (by rw [HO.out,if_neg (by rw [HT.out];simp)]),B1.out⟩
 | true =>
  refine (jQ ht _).mono ?_
  rintro e w1 ⟨rfl,b1⟩
  have B1:=Hd (aA (aB (Below.refl _ _) _) b1)
  have D1:=Hd b1
  obtain ⟨hcc,hff⟩:=aO b1
  have hs1:=b1.size
  simp only [World.size_alloc] at hs1
  obtain ⟨hd,ht0,ht1⟩:=aV.1 ht
  have hWH:=dL hd
  have hT:=aY hd
  have hp:=bg hd
  have hop:=gG d t
  have HM:=Hd (jG ht0 (show t<=35 by omega) (show 0<=aM d by omega) hp.2)
  have HT:=Hd ht
  have HD:=Hd hd
  clear b1 ht hd
  go_wp2_with fail
  refine (iC d t _ HD.out ht0 (by omega)).mono ?_
  rintro e w2 ⟨rfl,b2⟩
  have B2:=Hd (aA B1.out b2)
  have D2:=Hd (aA D1.out b2)
  have hs2:=b2.size
  clear b2 hcc hff
  obtain ⟨hcc,hff⟩:=aO D2.out
  generalize hK:ah d t=K at *
  have HK:=Hd hK
  clear hK
  go_wp2_with (go_at_call 194;refine (sV _ _).mono ?_;rintro e w' ⟨rfl,rfl⟩)
  generalize hQ:dS K=Q at *
  have HQ:=Hd hQ
  clear hQ
  have e3:IntKind.i64.wrap (Q - 1)=Q - 1:=IntWalk.i64_in _ (by omega)
  cases hin:inR p 0 (Q - 1) with
  | false =>
   have HI:=Hd hin
   clear hin
   go_wp2_with (go_at_call 116;refine (bQ HI.out _).mono ?_;rintro e w' ⟨rfl,rfl⟩)
   go_ret
   exact ⟨aP (by rw [HO.out,if_neg];rintro ⟨_,h0,h1⟩;have:=fT.1 HI.out;omega),B2.out⟩
  | true =>
   have HI:=Hd hin
   have hi:=ak.1 hin
   clear hin
   go_wp2_with (go_at_call 116;refine (bQ HI.out _).mono ?_;rintro e w' ⟨rfl,rfl⟩)
   refine (eH d _ (by omega) (by omega)).mono ?_
   rintro e w3 ⟨rfl,b3⟩
   have B3:=Hd (aA B2.out b3)
   have hM:=HM.out
   clear b3 hcc hff e3
   go_wp2_with fail
   go_ret
   exact ⟨aP (by rw [HO.out,if_pos ⟨HT.out,by omega,by omega⟩]),B3.out⟩
structure Sub (W:World) where
 v:World
 h:Below W.heap.size W v
theorem gP (W:World):Nonempty (Sub W):=⟨⟨W,Below.refl _ _⟩⟩
theorem dN (W:World) (x:Sub W) (b o:Nat) (h:b<W.heap.size):x.v.cell? ⟨b,o,none⟩=W.cell? ⟨b,o,none⟩:=(aO x.h).1 b o h
theorem bG {P:Program} (W:World) {id:Nat} {Q:Exit→Act→World→Prop} {a:Act} {w:World} {l:List Oper} (hm:P.follows .mixedOrders=true) (hB:Region.lexB .any l.toArray=true) (hC:Below W.heap.size W w)
  (h:wpQuiet P l.toArray (fun w'=>∃x:Sub W,w'=x.v) (fun a'=>∀w',(∃x:Sub W,w'=x.v)→Q .normal a' w') l a):(Code.region id l.toArray true).wp P Q a w :=
 wp_region_quiet (C:=fun w'=>∃x:Sub W,w'=x.v) hm hB ⟨⟨_,hC.drew⟩,rfl⟩ (by simpa using h)
theorem bB {P:Program} {f:FuncId} {args:Array Value} {W:World} {x:Sub W} {v:Value} (h:Calls P f args x.v fun e w'=>e = .returned v/\Below x.v.heap.size x.v w') :
  Calls P f args x.v fun e w''=>e = .returned v/\∃y:Sub W,w''=y.v :=
 h.mono fun _ w' ⟨he,hb⟩=>⟨he,⟨w',aA x.h hb⟩,rfl⟩
theorem bJ {P:Program} {f:FuncId} {args:Array Value} {W:World} {x:Sub W} {v:Value} (h:Calls P f args x.v fun e w'=>e = .returned v/\x.v=w') :
  Calls P f args x.v fun e w''=>e = .returned v/\∃y:Sub W,w''=y.v :=
 h.mono fun _ w' ⟨he,hb⟩=>⟨he,⟨w',hb ▸ x.h⟩,rfl⟩
theorem GZ {d:Dev} {t r k:Int} (h:bI d t=false):Hid (¬(bI d t=true/\(0<=r/\r<=3)/\(0<=k/\k<d.T)/\0<=ay d t r (bR k))):=by
 show ¬_
 rw [h];simp
theorem Ag (d:Dev) (t r k:Int) (w:World) (ht:bI d t=false) :
  Calls Tryz.prog 226 #[.agg #[.int .i64 d.W,.int .i64 d.H,.int .i64 d.T,.int .i64 d.R],.int .i64 t,.int .i64 r,.int .i64 k] w fun e w'=>e = .returned (.int .i64 (cO d t r k))/\Below w.heap.size w w':=by
 have HO:Hid (cO d t r k=if bI d t=true/\(0<=r/\r<=3)/\(0<=k/\k<d.T)/\0<=ay d t r (bR k) then t * aM d+7+r * d.T+k else -1):=rfl
 have hbad:=GZ (r:=r) (k:=k) ht
 have HT:=Hd ht
 have HR:=Hd hbad
 have HK:=HR
 have HS:=HR
 clear ht
 go_enter Tryz.func226,Tryz.ntmps226
 go_wp2_with fail
 have hsub:=gP (w.alloc (.cells #[.int .i64 d.W,.int .i64 d.H,.int .i64 d.T,.int .i64 d.R] 25))
 have hsc:=dN (w.alloc (.cells #[.int .i64 d.W,.int .i64 d.H,.int .i64 d.T,.int .i64 d.R] 25))
 refine bG (w.alloc (.cells #[.int .i64 d.W,.int .i64 d.H,.int .i64 d.T,.int .i64 d.R] 25)) (by kernel_rfl) (by kernel_rfl) (by first|exact Below.refl _ _|exact hD) ?_
 repeat (go_big_quiet_step ((first
  | (go_at_call 232;with_reducible exact bB (jQ HT.out _))
   | (go_at_call 116;(first|with_reducible exact bJ (bQ HR.out _)|with_reducible exact bJ (bQ HK.out _)))
   | (go_at_call 197;with_reducible exact bJ (dI k _ (by omega) (by omega)))
   | (go_at_call 196;with_reducible exact bB (fe HS.out HT.out (by omega) (by omega) _))
   | (go_at_call 76;with_reducible exact bB (eH d _ (by omega) (by omega))))))
 refine wpQuiet_nil ?_
 rintro _ ⟨⟨w2,hD⟩,rfl⟩
 (try dsimp only)
 clear hsub hsc
 all_goals
  go_wp2_with fail
  go_ret
  exact ⟨aP (by rw [HO.out,if_neg hbad.out]),aA (aB (Below.refl _ _) _) hD⟩
theorem Ah (d:Dev) (t r k:Int) (w:World) (ht:bI d t=true) (hr:inR r 0 3=false) :
  Calls Tryz.prog 226 #[.agg #[.int .i64 d.W,.int .i64 d.H,.int .i64 d.T,.int .i64 d.R],.int .i64 t,.int .i64 r,.int .i64 k] w fun e w'=>e = .returned (.int .i64 (cO d t r k))/\Below w.heap.size w w':=by
 have HO:Hid (cO d t r k=if bI d t=true/\(0<=r/\r<=3)/\(0<=k/\k<d.T)/\0<=ay d t r (bR k) then t * aM d+7+r * d.T+k else -1):=rfl
 have hbad:Hid (¬(bI d t=true/\(0<=r/\r<=3)/\(0<=k/\k<d.T)/\0<=ay d t r (bR k))):=by rintro ⟨_,h,_⟩;have:=fT.1 hr;omega
 have hd:=(aV.1 ht).1
 have hT:=aY hd
 have HT:=Hd ht
 have HR:=Hd hr
 have HK:=hbad
 have HS:=hbad
 clear ht hr hd
 go_enter Tryz.func226,Tryz.ntmps226
 go_wp2_with fail
 have hsub:=gP (w.alloc (.cells #[.int .i64 d.W,.int .i64 d.H,.int .i64 d.T,.int .i64 d.R] 25))
 have hsc:=dN (w.alloc (.cells #[.int .i64 d.W,.int .i64 d.H,.int .i64 d.T,.int .i64 d.R] 25))
 refine bG (w.alloc (.cells #[.int .i64 d.W,.int .i64 d.H,.int .i64 d.T,.int .i64 d.R] 25)) (by kernel_rfl) (by kernel_rfl) (by first|exact Below.refl _ _|exact hD) ?_
 repeat (go_big_quiet_step ((first
  | (go_at_call 232;with_reducible exact bB (jQ HT.out _))
   | (go_at_call 116;(first|with_reducible exact bJ (bQ HR.out _)|with_reducible exact bJ (bQ HK.out _)))
   | (go_at_call 197;with_reducible exact bJ (dI k _ (by omega) (by omega)))
   | (go_at_call 196;with_reducible exact bB (fe HS.out HT.out (by omega) (by omega) _))
   | (go_at_call 76;with_reducible exact bB (eH d _ (by omega) (by omega))))))
 refine wpQuiet_nil ?_
 rintro _ ⟨⟨w2,hD⟩,rfl⟩
 (try dsimp only)
 clear hsub hsc
 all_goals
  go_wp2_with fail
  go_ret
  exact ⟨aP (by rw [HO.out,if_neg hbad.out]),aA (aB (Below.refl _ _) _) hD⟩
theorem Ai (d:Dev) (t r k:Int) (w:World) (ht:bI d t=true) (hr:inR r 0 3=true) (hk:inR k 0 (d.T - 1)=false) :
  Calls Tryz.prog 226 #[.agg #[.int .i64 d.W,.int .i64 d.H,.int .i64 d.T,.int .i64 d.R],.int .i64 t,.int .i64 r,.int .i64 k] w fun e w'=>e = .returned (.int .i64 (cO d t r k))/\Below w.heap.size w w':=by
 have HO:Hid (cO d t r k=if bI d t=true/\(0<=r/\r<=3)/\(0<=k/\k<d.T)/\0<=ay d t r (bR k) then t * aM d+7+r * d.T+k else -1):=rfl
 have hbad:Hid (¬(bI d t=true/\(0<=r/\r<=3)/\(0<=k/\k<d.T)/\0<=ay d t r (bR k))):=by rintro ⟨_,_,h,_⟩;have:=fT.1 hk;omega
 have hd:=(aV.1 ht).1
 have hT:=aY hd
 have e3:IntKind.i64.wrap (d.T - 1)=d.T - 1:=IntWalk.i64_in _ (by omega)
 have HT:=Hd ht
 have HR:=Hd hr
 have HK:=Hd hk
 have HS:=hbad
 clear ht hr hd hk
 go_enter Tryz.func226,Tryz.ntmps226
 go_wp2_with fail
 have hsub:=gP (w.alloc (.cells #[.int .i64 d.W,.int .i64 d.H,.int .i64 d.T,.int .i64 d.R] 25))
 have hsc:=dN (w.alloc (.cells #[.int .i64 d.W,.int .i64 d.H,.int .i64 d.T,.int .i64 d.R] 25))
 refine bG (w.alloc (.cells #[.int .i64 d.W,.int .i64 d.H,.int .i64 d.T,.int .i64 d.R] 25)) (by kernel_rfl) (by kernel_rfl) (by first|exact Below.refl _ _|exact hD) ?_
 repeat (go_big_quiet_step ((first
  | (go_at_call 232;with_reducible exact bB (jQ HT.out _))
   | (go_at_call 116;(first|with_reducible exact bJ (bQ HR.out _)|with_reducible exact bJ (bQ HK.out _)))
   | (go_at_call 197;with_reducible exact bJ (dI k _ (by omega) (by omega)))
   | (go_at_call 196;with_reducible exact bB (fe HS.out HT.out (by omega) (by omega) _))
   | (go_at_call 76;with_reducible exact bB (eH d _ (by omega) (by omega))))))
 refine wpQuiet_nil ?_
 rintro _ ⟨⟨w2,hD⟩,rfl⟩
 (try dsimp only)
 clear hsub hsc
 all_goals
  go_wp2_with fail
  go_ret
  exact ⟨aP (by rw [HO.out,if_neg hbad.out]),aA (aB (Below.refl _ _) _) hD⟩
theorem Aj (d:Dev) (t r k:Int) (w:World) (ht:bI d t=true) (hr:inR r 0 3=true) (hk:inR k 0 (d.T - 1)=true) (hs:ay d t r (bR k)<0) :
  Calls Tryz.prog 226 #[.agg #[.int .i64 d.W,.int .i64 d.H,.int .i64 d.T,.int .i64 d.R],.int .i64 t,.int .i64 r,.int .i64 k] w fun e w'=>e = .returned (.int .i64 (cO d t r k))/\Below w.heap.size w w':=by
 have HO:Hid (cO d t r k=if bI d t=true/\(0<=r/\r<=3)/\(0<=k/\k<d.T)/\0<=ay d t r (bR k) then t * aM d+7+r * d.T+k else -1):=rfl
 have hbad:Hid (¬(bI d t=true/\(0<=r/\r<=3)/\(0<=k/\k<d.T)/\0<=ay d t r (bR k))):=by rintro ⟨_,_,_,h⟩;omega
 have hd:=(aV.1 ht).1
 have hT:=aY hd
 have hki:=ak.1 hk
 have hL:0<=bR k/\bR k<=6:=by unfold bR;omega
 have e3:IntKind.i64.wrap (d.T - 1)=d.T - 1:=IntWalk.i64_in _ (by omega)
 obtain ⟨P,hP⟩:∃P,ay d t r (bR k)=P:=⟨_,rfl⟩
 rw [hP] at hs
 have HT:=Hd ht
 have HR:=Hd hr
 have HK:=Hd hk
 have HS:=Hd hP
 clear ht hr hd hk hP
 go_enter Tryz.func226,Tryz.ntmps226
 go_wp2_with fail
 have hsub:=gP (w.alloc (.cells #[.int .i64 d.W,.int .i64 d.H,.int .i64 d.T,.int .i64 d.R] 25))
 have hsc:=dN (w.alloc (.cells #[.int .i64 d.W,.int .i64 d.H,.int .i64 d.T,.int .i64 d.R] 25))
 refine bG (w.alloc (.cells #[.int .i64 d.W,.int .i64 d.H,.int .i64 d.T,.int .i64 d.R] 25)) (by kernel_rfl) (by kernel_rfl) (by first|exact Below.refl _ _|exact hD) ?_
 repeat (go_big_quiet_step ((first
  | (go_at_call 232;with_reducible exact bB (jQ HT.out _))
   | (go_at_call 116;(first|with_reducible exact bJ (bQ HR.out _)|with_reducible exact bJ (bQ HK.out _)))
   | (go_at_call 197;with_reducible exact bJ (dI k _ (by omega) (by omega)))
   | (go_at_call 196;with_reducible exact bB (fe HS.out HT.out (by omega) (by omega) _))
   | (go_at_call 76;with_reducible exact bB (eH d _ (by omega) (by omega))))))
 refine wpQuiet_nil ?_
 rintro _ ⟨⟨w2,hD⟩,rfl⟩
 (try dsimp only)
 clear hsub hsc
 all_goals
  go_wp2_with fail
  go_ret
  exact ⟨aP (by rw [HO.out,if_neg hbad.out]),aA (aB (Below.refl _ _) _) hD⟩
theorem Ak (d:Dev) (t r k:Int) (w:World) (ht:bI d t=true) (hr:inR r 0 3=true) (hk:inR k 0 (d.T - 1)=true) (hs:0<=ay d t r (bR k)) :
  Calls Tryz.prog 226 #[.agg #[.int .i64 d.W,.int .i64 d.H,.int .i64 d.T,.int .i64 d.R],.int .i64 t,.int .i64 r,.int .i64 k] w fun e w'=>e = .returned (.int .i64 (cO d t r k))/\Below w.heap.size w w':=by
 have HO:Hid (cO d t r k=if bI d t=true/\(0<=r/\r<=3)/\(0<=k/\k<d.T)/\0<=ay d t r (bR k) then t * aM d+7+r * d.T+k else -1):=rfl
 have hd:=(aV.1 ht).1
 have ht0:=(aV.1 ht).2
 have hT:=aY hd
 have hWH:=dL hd
 have hp:=bg hd
 have hki:=ak.1 hk
 have hri:=ak.1 hr
 have hgood:Hid (bI d t=true/\(0<=r/\r<=3)/\(0<=k/\k<d.T)/\0<=ay d t r (bR k)):=⟨ht,hri,by omega,hs⟩
 have hL:0<=bR k/\bR k<=6:=by unfold bR;omega
 have e3:IntKind.i64.wrap (d.T - 1)=d.T - 1:=IntWalk.i64_in _ (by omega)
 have hM:=jG ht0.1 (show t<=35 by omega) (show 0<=aM d by omega) hp.2
 have hM2:=jG hri.1 hri.2 (show 0<=d.T by omega) (show d.T<=4 by omega)
 have HE:=Hd (And.intro (IntWalk.wrap64_in (t * aM d) (by omega)) (And.intro (IntWalk.wrap64_in (t * aM d+7) (by omega)) (And.intro (IntWalk.wrap64_in (r * d.T) (by omega)) (And.intro (IntWalk.wrap64_in (t * aM d+7+r * d.T) (by omega)) (IntWalk.wrap64_in (t * aM d+7+r * d.T+k) (by omega))))))
 obtain ⟨P,hP⟩:∃P,ay d t r (bR k)=P:=⟨_,rfl⟩
 rw [hP] at hs
 have HT:=Hd ht
 have HR:=Hd hr
 have HK:=Hd hk
 have HS:=Hd hP
 have HG:=hgood
 clear ht hr hd hk hP hM hM2
 go_enter Tryz.func226,Tryz.ntmps226
 go_wp2_with fail
 have hsub:=gP (w.alloc (.cells #[.int .i64 d.W,.int .i64 d.H,.int .i64 d.T,.int .i64 d.R] 25))
 have hsc:=dN (w.alloc (.cells #[.int .i64 d.W,.int .i64 d.H,.int .i64 d.T,.int .i64 d.R] 25))
 refine bG (w.alloc (.cells #[.int .i64 d.W,.int .i64 d.H,.int .i64 d.T,.int .i64 d.R] 25)) (by kernel_rfl) (by kernel_rfl) (by first|exact Below.refl _ _|exact hD) ?_
 repeat (go_big_quiet_step ((first
  | (go_at_call 232;with_reducible exact bB (jQ HT.out _))
   | (go_at_call 116;(first|with_reducible exact bJ (bQ HR.out _)|with_reducible exact bJ (bQ HK.out _)))
   | (go_at_call 197;with_reducible exact bJ (dI k _ (by omega) (by omega)))
   | (go_at_call 196;with_reducible exact bB (fe HS.out HT.out (by omega) (by omega) _))
   | (go_at_call 76;with_reducible exact bB (eH d _ (by omega) (by omega))))))
 refine wpQuiet_nil ?_
 rintro _ ⟨⟨w2,hD⟩,rfl⟩
 (try dsimp only)
 clear hsub hsc
 all_goals
  go_wp2_with fail
  have hsub:=gP (w.alloc (.cells #[.int .i64 d.W,.int .i64 d.H,.int .i64 d.T,.int .i64 d.R] 25))
 have hsc:=dN (w.alloc (.cells #[.int .i64 d.W,.int .i64 d.H,.int .i64 d.T,.int .i64 d.R] 25))
 refine bG (w.alloc (.cells #[.int .i64 d.W,.int .i64 d.H,.int .i64 d.T,.int .i64 d.R] 25)) (by kernel_rfl) (by kernel_rfl) (by first|exact Below.refl _ _|exact hD) ?_
 repeat (go_big_quiet_step ((first
  | (go_at_call 232;with_reducible exact bB (jQ HT.out _))
   | (go_at_call 116;(first|with_reducible exact bJ (bQ HR.out _)|with_reducible exact bJ (bQ HK.out _)))
   | (go_at_call 197;with_reducible exact bJ (dI k _ (by omega) (by omega)))
   | (go_at_call 196;with_reducible exact bB (fe HS.out HT.out (by omega) (by omega) _))
   | (go_at_call 76;with_reducible exact bB (eH d _ (by omega) (by omega))))))
 refine wpQuiet_nil ?_
 rintro _ ⟨⟨w2,hD⟩,rfl⟩
 (try dsimp only)
 clear hsub hsc
 all_goals
  go_wp2_with fail
  go_ret
  exact ⟨aP (by rw [HO.out,if_pos HG.out];first|rfl|(rw [HE.out.1,HE.out.2.1,HE.out.2.2.1,HE.out.2.2.2.1,HE.out.2.2.2.2])),aA (aB (Below.refl _ _) _) hD⟩
theorem qd (d:Dev) (t r k:Int) (w:World) :
  Calls Tryz.prog 226 #[.agg #[.int .i64 d.W,.int .i64 d.H,.int .i64 d.T,.int .i64 d.R],.int .i64 t,.int .i64 r,.int .i64 k] w fun e w'=>e = .returned (.int .i64 (cO d t r k))/\Below w.heap.size w w':=by
 cases ht:bI d t with
 | false=>exact Ag d t r k w ht
 | true =>
  cases hr:inR r 0 3 with
  | false=>exact Ah d t r k w ht hr
  | true =>
   cases hk:inR k 0 (d.T - 1) with
   | false=>exact Ai d t r k w ht hr hk
   | true =>
    rcases Int.lt_or_le (ay d t r (bR k)) 0 with h|h
    ·exact Aj d t r k w ht hr hk h
    ·exact Ak d t r k w ht hr hk h
/-! ### which nodes exist -/
theorem uC (d:Dev) (n:Int) (w:World) (hn:bZ d n=false) :
  Calls Tryz.prog 141 #[.agg #[.int .i64 d.W,.int .i64 d.H,.int .i64 d.T,.int .i64 d.R],.int .i64 n] w fun e w'=>e = .returned (.bool (bS d n))/\Below w.heap.size w w':=by
 have HR:Hid (bS d n=false):=by show _=false;unfold bS;rw [hn];rfl
 have HN:=Hd hn
 clear hn
 go_enter Tryz.func141,Tryz.ntmps141
 go_wp2_with fail
 refine (fB d _).mono ?_
 rintro e w1 ⟨rfl,b1⟩
 have B1:=Hd (aA (aB (Below.refl _ _) _) b1)
 have hb1:=b1.size
 simp only [World.size_alloc] at hb1
 obtain ⟨hcc,hff⟩:=aO b1
 clear b1
 cases hd:bO d with
 | false =>
  go_wp2_with fail
  go_ret
  exact ⟨aH HR.out.symm,B1.out⟩
 | true =>
  have hh:=cK hd
  have HD:=Hd hd
  clear hd
  go_wp2_with fail
  refine (lh d _ HD.out).mono ?_
  rintro e w2 ⟨rfl,b2⟩
  have B2:=Hd (aA B1.out b2)
  clear b2 hcc hff
  have e3:IntKind.i64.wrap (ai d - 1)=ai d - 1:=IntWalk.i64_in _ (by omega)
  have hin:inR n 0 (ai d - 1)=false:=by
   cases h:inR n 0 (ai d - 1) with
   | false=>rfl
   | true =>
    have h1:=HN.out
    have h2:=ak.1 h
    rw [bZ,HD.out,decide_eq_true (by omega),decide_eq_true (by omega)] at h1
    cases h1
  have HI:=Hd hin
  clear hin
  go_wp2_with (go_at_call 116;refine (bQ HI.out _).mono ?_;rintro e w' ⟨rfl,rfl⟩)
  go_ret
  exact ⟨aH HR.out.symm,B2.out⟩
theorem uy (d:Dev) (n:Int) (w:World) (hn:bZ d n=true) :
  Calls Tryz.prog 141 #[.agg #[.int .i64 d.W,.int .i64 d.H,.int .i64 d.T,.int .i64 d.R],.int .i64 n] w fun e w'=>e = .returned (.bool (bS d n))/\Below w.heap.size w w':=by
 have HR:Hid (bS d n=sU d (n / aM d) (n % aM d)):=by show _=_;unfold bS;rw [hn];rfl
 have HN:=Hd hn
 obtain ⟨hd,n0,n1,hq0,hq1,hr0,hr1⟩:=dX hn
 have hT:=aY hd
 have hp:=bg hd
 have hWH:=dL hd
 have hh:=cK hd
 have HTI:=Hd (gK hn)
 have HD:=Hd hd
 have e3:IntKind.i64.wrap (ai d - 1)=ai d - 1:=IntWalk.i64_in _ (by omega)
 have HI:Hid (inR n 0 (ai d - 1)=true):=by
  show _=true
  unfold bZ at hn
  simp only [Bool.and_eq_true,decide_eq_true_eq] at hn
  rw [ak]
  omega
 clear hn hd
 go_enter Tryz.func141,Tryz.ntmps141
 go_wp2_with fail
 refine (fB d _).mono ?_
 rintro e w1 ⟨rfl,b1⟩
 rw [HD.out]
 have B1:=Hd b1
 have hb1:=b1.size
 simp only [World.size_alloc] at hb1
 obtain ⟨hcc,hff⟩:=aO b1
 clear b1
 go_wp2_with fail
 refine (lh d _ HD.out).mono ?_
 rintro e w2 ⟨rfl,b2⟩
 have B2:=Hd (aA B1.out b2)
 have hb2:=b2.size
 clear b2 hcc hff
 obtain ⟨hcc,hff⟩:=aO B2.out
 go_wp2_with (go_at_call 116;refine (bQ HI.out _).mono ?_;rintro e w' ⟨rfl,rfl⟩)
 refine (fD d n _ HN.out).mono ?_
 rintro e w3 ⟨rfl,b3⟩
 have B3:=Hd (aA B2.out b3)
 have hb3:=b3.size
 clear b3 hcc hff e3
 obtain ⟨hcc,hff⟩:=aO B3.out
 have hWIRE:=Hd (fun (h7:7<=n % aM d) (w:World)=>vw d n w HN.out h7)
 generalize hk:n % aM d=k at *
 generalize hq:n / aM d=q at *
 have hK:sU d q k=if k<5 then decide (k<kZ (ah d q)) else if k<7 then decide (k - 5<dS (ah d q)) else decide (0<=ay d q ((k - 7) / d.T) (bR ((k - 7) % d.T))):=rfl
 have HK:=Hd hK
 have HKQ:=Hd (And.intro hk hq)
 have hip:=xe d q
 have hop:=gG d q
 have hKT:=(fun w=>iC d q w HD.out (by omega) (by omega))
 have HKT:=Hd hKT
 generalize ah d q=K at *
 clear hK hk hq hKT
 have h3:k<5∨(¬k<5/\k<7)∨(¬k<5/\¬k<7):=by omega
 rcases h3 with h|⟨h,h'⟩|⟨h,h'⟩
 ·go_wp2_with fail
  refine (HKT.out _).mono ?_
  rintro e w4 ⟨rfl,b4⟩
  have B4:=Hd (aA B3.out b4)
  clear b4 hcc hff
  generalize hQ:kZ K=Q at *
  have HQ:=Hd hQ
  clear hQ
  go_wp2_with (go_at_call 193;refine (Ad _ _).mono ?_;rw [HQ.out];rintro e w' ⟨rfl,rfl⟩)
  go_ret
  exact ⟨aH (by rw [HR.out,HK.out,if_pos (by omega)]),aA (aB (Below.refl _ _) _) B4.out⟩
 ·go_wp2_with fail
  refine (HKT.out _).mono ?_
  rintro e w4 ⟨rfl,b4⟩
  have B4:=Hd (aA B3.out b4)
  clear b4 hcc hff
  generalize hQ:dS K=Q at *
  have HQ:=Hd hQ
  clear hQ
  go_wp2_with (go_at_call 194;refine (sV _ _).mono ?_;rw [HQ.out];rintro e w' ⟨rfl,rfl⟩)
  go_ret
  exact ⟨aH (by rw [HR.out,HK.out,if_neg (by omega),if_pos (by omega)]),aA (aB (Below.refl _ _) _) B4.out⟩
 ·have hT0:=Int.ediv_nonneg (show 0<=k - 7 by omega) (show 0<=d.T by omega)
  have hT1:=Int.emod_nonneg (k - 7) (show d.T≠0 by omega)
  have hT2:=Int.emod_lt_of_pos (k - 7) (show 0<d.T by omega)
  go_wp2_with fail
  refine (hWIRE.out (by omega) _).mono ?_
  rintro e w4 ⟨rfl,b4⟩
  have hD:=aA B3.out b4
  have hb4:=b4.size
  clear b4 hcc hff
  obtain ⟨hcc,hff⟩:=aO hD
  generalize (k - 7) / d.T=r at *
  generalize (k - 7) % d.T=m at *
  have hL:0<=bR m/\bR m<=6:=by unfold bR;omega
  have HS:Hid (∃P,ay d q r (bR m)=P):=⟨_,rfl⟩
  obtain ⟨P,hP⟩:=HS.out
  have HP:=Hd hP
  clear hP
  go_wp2_with fail
  clear hcc hff
  have hsub:=gP (w.alloc (.cells #[.int .i64 d.W,.int .i64 d.H,.int .i64 d.T,.int .i64 d.R] 25))
  have hsc:=dN (w.alloc (.cells #[.int .i64 d.W,.int .i64 d.H,.int .i64 d.T,.int .i64 d.R] 25))
  refine bG (w.alloc (.cells #[.int .i64 d.W,.int .i64 d.H,.int .i64 d.T,.int .i64 d.R] 25)) (by kernel_rfl) (by kernel_rfl) (by first|exact Below.refl _ _|exact hD) ?_
  repeat (go_big_quiet_step ((first
   | (go_at_call 197;with_reducible exact bJ (dI m _ (by omega) (by omega)))
   | (go_at_call 196;with_reducible exact bB (fe HP.out HTI.out (by omega) (by omega) _)))))
  refine wpQuiet_nil ?_
  rintro _ ⟨⟨w2,hD⟩,rfl⟩
  (try dsimp only)
  clear hsub hsc
  go_wp2_with fail
  go_ret
  exact ⟨aH (by rw [HR.out,HK.out,if_neg (by omega),if_neg (by omega),HP.out]),aA (aB (Below.refl _ _) _) hD⟩
theorem gQ (d:Dev) (n:Int) (w:World) :
  Calls Tryz.prog 141 #[.agg #[.int .i64 d.W,.int .i64 d.H,.int .i64 d.T,.int .i64 d.R],.int .i64 n] w fun e w'=>e = .returned (.bool (bS d n))/\Below w.heap.size w w':=by
 cases hn:bZ d n with
 | false=>exact uC d n w hn
 | true=>exact uy d n w hn
end Go.Proofs.YtignkfhdkcgkgaaGreat
