/- The routing nodes of a device in plain terms: which exist, which can drive which. Plain lemmas; no function of the program is walked here. Routing nodes of the program: pins, wires, which nodes exist. Places of routing nodes; pins and wires as nodes; which nodes exist: the program's functions. A region that draws its order and whose calls make memory but return numbers: one walk in the order of the text serves every order. Wires as nodes, which nodes exist, ascending insertion: the program's functions. -/
import Derived.Test.YtignkfhdkcgkgaaGreatCopy
import Derived.Test.YtignkfhdkcgkgaaGreatEmu
import Derived.Test.YtignkfhdkcgkgaaGreatHar
namespace Go.Proofs.YtignkfhdkcgkgaaGreat
set_option maxRecDepth 100000
open Go.RowKit

def perT (d:Dev):Int:=7+4 * d.T
def inPins (k:Int):Int:=if k=0 then 1 else if k=1 then 5 else if k=2 then 4 else 0
def outPins (k:Int):Int:=if k=0 then 1 else if k=1 then 2 else if k=2 then 1 else 0
def stX (d:Dev) (t r s:Int):Int:=if r=0 then t % d.W+s else if r=2 then t % d.W - s else t % d.W
def stY (d:Dev) (t r s:Int):Int:=if r=1 then t / d.W+s else if r=0 then t / d.W else if r=2 then t / d.W else t / d.W - s
def stIn (d:Dev) (t r s:Int):Bool:=inR (stX d t r s) 0 (d.W - 1) && inR (stY d t r s) 0 (d.H - 1)
def stepOf (d:Dev) (t r s:Int):Int:=if stIn d t r s=true then stY d t r s * d.W+stX d t r s else -1
def wlen (k:Int):Int:=1+k % 2
def nodesOf (d:Dev):Int:=d.W * d.H * perT d
/-- A tile of a valid device. -/
def tileIn (d:Dev) (t:Int):Bool:=devOk d && (decide (0≤t) && decide (t<d.W * d.H))
theorem tileIn_iff {d:Dev} {t:Int}:tileIn d t=true↔devOk d=true∧0≤t∧t<d.W * d.H:=by simp [tileIn]
def outPin (d:Dev) (t p:Int):Int:=if tileIn d t=true∧0≤p∧p<outPins (kindOf d t) then t * perT d+5+p else -1
def wireNode (d:Dev) (t r k:Int):Int:=if tileIn d t=true∧(0≤r∧r≤3)∧(0≤k∧k<d.T)∧0≤stepOf d t r (wlen k) then t * perT d+7+r * d.T+k else -1
def nodeOkK (d:Dev) (t k:Int):Bool :=
 if k<5 then decide (k<inPins (kindOf d t)) else if k<7 then decide (k - 5<outPins (kindOf d t)) else decide (0≤stepOf d t ((k - 7) / d.T) (wlen ((k - 7) % d.T)))
def nodeIn (d:Dev) (n:Int):Bool:=devOk d && (decide (0≤n) && decide (n<nodesOf d))
def nodeOk (d:Dev) (n:Int):Bool:=nodeIn d n && nodeOkK d (n / perT d) (n % perT d)

theorem dev_WH {d:Dev} (h:devOk d=true):9≤d.W * d.H∧d.W * d.H≤36:=by
 obtain ⟨hN,h1,h2⟩:=tiles_eq h
 omega
theorem perT_bd {d:Dev} (h:devOk d=true):11≤perT d∧perT d≤23:=by
 have:=devOk_bd h
 unfold perT
 omega
theorem mul_bd {a b A B:Int} (h0:0≤a) (h1:a≤A) (k0:0≤b) (k1:b≤B):0≤a * b∧a * b≤A * B :=
 ⟨Int.mul_nonneg h0 k0,Int.mul_le_mul h1 k1 k0 (by omega)⟩
theorem nodesOf_bd {d:Dev} (h:devOk d=true):99≤nodesOf d∧nodesOf d≤828:=by
 obtain ⟨h1,h2⟩:=dev_WH h
 obtain ⟨h3,h4⟩:=perT_bd h
 unfold nodesOf
 refine ⟨?_,(mul_bd (by omega) h2 (by omega) h4).2⟩
 have:9 * 11≤d.W * d.H * perT d:=Int.mul_le_mul h1 h3 (by omega) (by omega)
 omega
theorem tile_xy {d:Dev} {t:Int} (h:tileIn d t=true):0≤t % d.W∧t % d.W<d.W∧0≤t / d.W∧t / d.W<d.H∧t=t / d.W * d.W+t % d.W:=by
 obtain ⟨hd,h0,h1⟩:=tileIn_iff.1 h
 obtain ⟨w1,w2,_⟩:=devOk_bd hd
 refine ⟨Int.emod_nonneg _ (by omega),Int.emod_lt_of_pos _ (by omega),Int.ediv_nonneg h0 (by omega),?_,?_⟩
 ·exact Int.ediv_lt_of_lt_mul (by omega) (by rw [Int.mul_comm];exact h1)
 ·have:=Int.emod_add_mul_ediv t d.W
  rw [Int.mul_comm (t / d.W)]
  omega
theorem node_tk {d:Dev} {n:Int} (h:nodeIn d n=true):devOk d=true∧0≤n∧n≤827∧0≤n / perT d∧n / perT d<d.W * d.H∧0≤n % perT d∧n % perT d<perT d:=by
 simp only [nodeIn,Bool.and_eq_true,decide_eq_true_eq] at h
 obtain ⟨hd,h0,h1⟩:=h
 have:=nodesOf_bd hd
 have hp:=perT_bd hd
 exact ⟨hd,h0,by omega,Int.ediv_nonneg h0 (by omega),Int.ediv_lt_of_lt_mul (by omega) h1,Int.emod_nonneg _ (by omega),Int.emod_lt_of_pos _ (by omega)⟩
theorem node_tile {d:Dev} {n:Int} (h:nodeIn d n=true):tileIn d (n / perT d)=true:=by
 obtain ⟨hd,_,_,h1,h2,_⟩:=node_tk h
 exact tileIn_iff.2 ⟨hd,h1,h2⟩
theorem divmod_of {a b q r:Int} (h:a=q * b+r) (h0:0≤r) (h1:r<b):a / b=q∧a % b=r:=by
 subst h
 constructor
 ·rw [Int.add_comm,Int.add_mul_ediv_right _ _ (by omega),Int.ediv_eq_zero_of_lt h0 h1];omega
 ·rw [Int.add_comm,Int.add_mul_emod_self_right,Int.emod_eq_of_lt h0 h1]
theorem step_bd {d:Dev} {t r s:Int} (h:stIn d t r s=true):0≤stX d t r s∧stX d t r s<d.W∧0≤stY d t r s∧stY d t r s<d.H:=by
 simp only [stIn,Bool.and_eq_true,inR_iff] at h
 omega
theorem step_of_xy {d:Dev} (hd:devOk d=true) {x y:Int} (hx:0≤x) (hx1:x<d.W) (hy:0≤y) (hy1:y<d.H):tileIn d (y * d.W+x)=true∧(y * d.W+x) % d.W=x∧(y * d.W+x) / d.W=y:=by
 obtain ⟨w1,w2,_⟩:=devOk_bd hd
 obtain ⟨e1,e2⟩:=divmod_of (a:=y * d.W+x) rfl hx hx1
 refine ⟨tileIn_iff.2 ⟨hd,?_,?_⟩,e2,e1⟩
 ·have:=Int.mul_nonneg hy (show 0≤d.W by omega);omega
 ·have:y * d.W≤(d.H - 1) * d.W:=Int.mul_le_mul_of_nonneg_right (by omega) (by omega)
  have e:(d.H - 1) * d.W=d.W * d.H - d.W:=by rw [Int.sub_mul,Int.one_mul,Int.mul_comm]
  omega
theorem step_tile {d:Dev} {t r s:Int} (hd:devOk d=true) (h:0≤stepOf d t r s):stIn d t r s=true∧tileIn d (stepOf d t r s)=true∧stepOf d t r s % d.W=stX d t r s∧stepOf d t r s / d.W=stY d t r s:=by
 cases hs:stIn d t r s with
 | false=>rw [stepOf,hs] at h;simp at h
 | true =>
  rw [stepOf,if_pos hs]
  obtain ⟨a,b,c,e⟩:=step_bd hs
  exact ⟨rfl,step_of_xy hd a b c e⟩
theorem step_neg {d:Dev} {t r s:Int} (h:stIn d t r s=false):stepOf d t r s=-1:=by rw [stepOf,h];simp
theorem step_range {d:Dev} {t r s:Int} (hd:devOk d=true):-1≤stepOf d t r s∧stepOf d t r s<d.W * d.H:=by
 have:=dev_WH hd
 cases hs:stIn d t r s with
 | false=>rw [step_neg hs];omega
 | true =>
  have h0:0≤stepOf d t r s:=by
   rw [stepOf,if_pos hs]
   obtain ⟨a,_,c,_⟩:=step_bd hs
   have:=Int.mul_nonneg c (show 0≤d.W by have:=devOk_bd hd;omega)
   omega
  have:=tileIn_iff.1 (step_tile hd h0).2.1
  omega
/-- A step and the way back. -/
theorem step_back {d:Dev} {t r s:Int} (ht:tileIn d t=true) (hr:0≤r) (hr3:r≤3) (h:0≤stepOf d t ((r+2) % 4) s):stepOf d (stepOf d t ((r+2) % 4) s) r s=t:=by
 have hd:=(tileIn_iff.1 ht).1
 obtain ⟨_,_,ex,ey⟩:=step_tile hd h
 obtain ⟨x0,x1,y0,y1,et⟩:=tile_xy ht
 have hX:stX d (stepOf d t ((r+2) % 4) s) r s=t % d.W:=by
  rw [stX,ex]
  have:r=0∨r=1∨r=2∨r=3:=by omega
  rcases this with rfl|rfl|rfl|rfl <;> simp [stX] <;> omega
 have hY:stY d (stepOf d t ((r+2) % 4) s) r s=t / d.W:=by
  rw [stY,ey]
  have:r=0∨r=1∨r=2∨r=3:=by omega
  rcases this with rfl|rfl|rfl|rfl <;> simp [stY] <;> omega
 rw [stepOf,stIn,hX,hY,inR_iff.2 ⟨x0,by omega⟩,inR_iff.2 ⟨y0,by omega⟩]
 simp only [Bool.and_self,if_true]
 exact et.symm
/-- Different numbers of steps lead to different tiles. -/
theorem step_inj {d:Dev} {t r s s':Int} (hd:devOk d=true) (hr:0≤r) (hr3:r≤3) (h:0≤stepOf d t r s) (h':0≤stepOf d t r s') (e:stepOf d t r s=stepOf d t r s'):s=s':=by
 obtain ⟨_,_,ex,ey⟩:=step_tile hd h
 obtain ⟨_,_,ex',ey'⟩:=step_tile hd h'
 rw [e] at ex ey
 rw [ex] at ex'
 rw [ey] at ey'
 have:r=0∨r=1∨r=2∨r=3:=by omega
 rcases this with rfl|rfl|rfl|rfl <;> simp [stX,stY] at ex' ey' <;> omega

/-! ### ascending lists -/
def ins:List Int→Int→List Int
 | [],x=>[x]
 | y :: l,x=>if y<x then y :: ins l x else if y=x then y :: l else x :: y :: l
def asc (l:List Int):List Int:=l.foldl ins []
theorem mem_ins {l:List Int} {x y:Int}:y∈ins l x↔y=x∨y∈l:=by
 induction l with
 | nil=>simp [ins]
 | cons z l ih =>
  rw [ins]
  split
  ·simp only [List.mem_cons,ih]
   constructor
   ·rintro (h|h|h) <;> simp [h]
   ·rintro (h|h|h) <;> simp [h]
  ·split
   ·rename_i h
    subst h
    simp only [List.mem_cons]
    constructor
    ·rintro (h|h) <;> simp [h]
    ·rintro (h|h|h) <;> simp [h]
   ·simp
def Asc (l:List Int):Prop:=l.Pairwise (·<·)
theorem asc_ins {l:List Int} {x:Int} (h:Asc l):Asc (ins l x):=by
 induction l with
 | nil=>simp [ins,Asc]
 | cons z l ih =>
  unfold Asc at *
  rw [List.pairwise_cons] at h
  rw [ins]
  split
  ·rw [List.pairwise_cons]
   refine ⟨fun y hy=>?_,ih h.2⟩
   rcases mem_ins.1 hy with rfl|hy
   ·assumption
   ·exact h.1 y hy
  ·split
   ·rw [List.pairwise_cons];exact h
   ·rw [List.pairwise_cons]
    refine ⟨fun y hy=>?_,List.pairwise_cons.2 h⟩
    rcases List.mem_cons.1 hy with rfl|hy
    ·omega
    ·have:=h.1 y hy;omega
theorem foldl_ins {l:List Int}:∀{l0:List Int},Asc l0→Asc (l.foldl ins l0)∧∀y,y∈l.foldl ins l0↔y∈l0∨y∈l:=by
 induction l with
 | nil=>intro l0 h;exact ⟨h,by simp⟩
 | cons x l ih =>
  intro l0 h
  obtain ⟨h1,h2⟩:=ih (asc_ins (x:=x) h)
  refine ⟨h1,fun y=>?_⟩
  rw [List.foldl_cons,h2,mem_ins,List.mem_cons]
  constructor
  ·rintro ((h|h)|h) <;> simp [h]
  ·rintro (h|h|h) <;> simp [h]
theorem asc_asc (l:List Int):Asc (asc l):=(foldl_ins (l:=l) (l0:=[]) (by simp [Asc])).1
theorem mem_asc {l:List Int} {y:Int}:y∈asc l↔y∈l:=by rw [asc,(foldl_ins (l:=l) (l0:=[]) (by simp [Asc])).2];simp
theorem asc_append (l:List Int) (x:Int):asc (l++[x])=ins (asc l) x:=by simp [asc]
theorem ins_length_le (l:List Int) (x:Int):(ins l x).length≤l.length+1:=by
 induction l with
 | nil=>simp [ins]
 | cons z l ih =>
  rw [ins]
  split
  ·simp;omega
  ·split <;> simp
theorem asc_length_le (l:List Int):(asc l).length≤l.length:=by
 have:∀l0:List Int,(l.foldl ins l0).length≤l0.length+l.length:=by
  induction l with
  | nil=>intro l0;simp
  | cons x l ih=>intro l0;have h1:=ih (ins l0 x);have:=ins_length_le l0 x;simp only [List.foldl_cons,List.length_cons];omega
 simpa [asc] using this []
theorem asc_unique:∀{l m:List Int},Asc l→Asc m→(∀y,y∈l↔y∈m)→l=m
 | [],[],_,_,_=>rfl
 | [],y :: m,_,_,h=>by have:=(h y).2 (by simp);simp at this
 | x :: l,[],_,_,h=>by have:=(h x).1 (by simp);simp at this
 | x :: l,y :: m,h1,h2,h=>by
  unfold Asc at *
  rw [List.pairwise_cons] at h1 h2
  have hxy:x=y:=by
   have a:=(h x).1 (by simp)
   have b:=(h y).2 (by simp)
   rcases List.mem_cons.1 a with a|a
   ·exact a
   ·rcases List.mem_cons.1 b with b|b
    ·exact b.symm
    ·have:=h1.1 y b
     have:=h2.1 x a
     omega
  subst hxy
  rw [asc_unique (l:=l) (m:=m) h1.2 h2.2 fun z=>?_]
  constructor
  ·intro hz
   have:=(h z).1 (by simp [hz])
   rcases List.mem_cons.1 this with rfl|this
   ·have:=h1.1 z hz;omega
   ·exact this
  ·intro hz
   have:=(h z).2 (by simp [hz])
   rcases List.mem_cons.1 this with rfl|this
   ·have:=h2.1 z hz;omega
   ·exact this
/-- A sorted arrangement of a list without doubles is the ascending list of what is in it. -/
theorem sorted_asc {l m:List Int} (hp:l.Perm m) (hs:l.Pairwise (·≤·)) (hn:m.Nodup):l=asc m:=by
 have hn':l.Pairwise (·≠·):=hp.nodup_iff.2 hn
 refine asc_unique ?_ (asc_asc _) fun y=>by rw [mem_asc];exact hp.mem_iff
 unfold Asc
 exact (hs.and hn').imp fun ⟨a,b⟩=>by omega
theorem asc_congr {l m:List Int} (h:∀y,y∈l↔y∈m):asc l=asc m:=asc_unique (asc_asc _) (asc_asc _) fun y=>by rw [mem_asc,mem_asc];exact h y

/-! ### the sources of a node -/
/-- The wire on track k in direction r that begins s steps before tile t. -/
def cand (d:Dev) (t r k s:Int):Int:=wireNode d (stepOf d t ((r+2) % 4) s) r k
def oneOf (x:Int):List Int:=if 0≤x then [x] else []
theorem mem_oneOf {x y:Int}:y∈oneOf x↔y=x∧0≤x:=by unfold oneOf;split <;> simp [*]
/-- Which wires count for an input pin, and which for a wire. -/
def pinUse (d:Dev) (pin k:Int):Bool:=!(decide (d.T>1) && decide ((k+pin) % 2=1))
def wireUse (d:Dev) (dir track r k s:Int):Bool:=decide (r≠(dir+2) % 4) && ((decide (k=track) || decide (k=(track+1) % d.T)) && decide (s=wlen k))
def useOf (d:Dev) (pin r k s:Int):Bool:=if 7≤pin then wireUse d ((pin - 7) / d.T) ((pin - 7) % d.T) r k s else pinUse d pin k
def candS (d:Dev) (t pin r k s:Int):List Int:=if useOf d pin r k s=true then oneOf (cand d t r k s) else []
def candK (d:Dev) (t pin r k:Int) (s:Nat):List Int:=(List.range s).flatMap fun (j:Nat)=>candS d t pin r k ((j:Int)+1)
def candR (d:Dev) (t pin r:Int) (k:Nat):List Int:=(List.range k).flatMap fun (j:Nat)=>candK d t pin r (j:Int) (wlen (j:Int)).toNat
def candA (d:Dev) (t pin:Int) (r:Nat):List Int:=(List.range r).flatMap fun (j:Nat)=>candR d t pin (j:Int) d.T.toNat
def outsOf (d:Dev) (t:Int):List Int:=if outPins (kindOf d t)>1 then [outPin d t 0,outPin d t 1] else [outPin d t 0]
def itemsOf (d:Dev) (t pin:Int):List Int:=(if 7≤pin then outsOf d t else [])++candA d t pin 4
def srcs (d:Dev) (n:Int):List Int:=if nodeOk d n=true∧¬(n % perT d=5∨n % perT d=6) then asc (itemsOf d (n / perT d) (n % perT d)) else []

theorem cand_ge {d:Dev} {t r k s:Int} (_hd:devOk d=true) (h:0≤cand d t r k s) :
  tileIn d (stepOf d t ((r+2) % 4) s)=true∧(0≤r∧r≤3)∧(0≤k∧k<d.T)∧0≤stepOf d (stepOf d t ((r+2) % 4) s) r (wlen k)∧cand d t r k s=stepOf d t ((r+2) % 4) s * perT d+(7+r * d.T+k):=by
 unfold cand at h ⊢
 unfold wireNode at h ⊢
 split at h
 ·rename_i hc
  rw [if_pos hc]
  exact ⟨hc.1,hc.2.1,hc.2.2.1,hc.2.2.2,by omega⟩
 ·omega
theorem cand_mod {d:Dev} {t r k s:Int} (hd:devOk d=true) (h:0≤cand d t r k s):cand d t r k s / perT d=stepOf d t ((r+2) % 4) s∧cand d t r k s % perT d=7+r * d.T+k∧7≤7+r * d.T+k:=by
 obtain ⟨h1,⟨r0,r1⟩,⟨k0,k1⟩,_,e⟩:=cand_ge hd h
 have hT:=devOk_bd hd
 have hm:=mul_bd r0 r1 (show 0≤d.T by omega) (Int.le_refl d.T)
 have:=divmod_of (b:=perT d) e (by omega) (by unfold perT;omega)
 exact ⟨this.1,this.2,by omega⟩
theorem rk_inj {T r k r' k':Int} (k0:0≤k) (k1:k<T) (k0':0≤k') (k1':k'<T) (e:7+r * T+k=7+r' * T+k'):r=r'∧k=k':=by
 have h1:=divmod_of (a:=r * T+k) rfl k0 k1
 have h2:=divmod_of (a:=r' * T+k') rfl k0' k1'
 have e':r * T+k=r' * T+k':=by omega
 rw [e'] at h1
 exact ⟨h1.1.symm.trans h2.1,h1.2.symm.trans h2.2⟩
theorem mem_candS {d:Dev} {t pin r k s y:Int}:y∈candS d t pin r k s↔useOf d pin r k s=true∧y=cand d t r k s∧0≤cand d t r k s:=by
 unfold candS
 split
 ·rename_i h;rw [mem_oneOf];simp [h]
 ·rename_i h;simp [h]
theorem mem_candK {d:Dev} {t pin r k y:Int} {s:Nat}:y∈candK d t pin r k s↔∃j,j<s∧y∈candS d t pin r k ((j:Int)+1):=by simp [candK]
theorem mem_candR {d:Dev} {t pin r y:Int} {k:Nat}:y∈candR d t pin r k↔∃j,j<k∧y∈candK d t pin r (j:Int) (wlen (j:Int)).toNat:=by simp [candR]
theorem mem_candA {d:Dev} {t pin y:Int} {r:Nat}:y∈candA d t pin r↔∃j,j<r∧y∈candR d t pin (j:Int) d.T.toNat:=by simp [candA]
theorem mem_candA' {d:Dev} {t pin y:Int} (_hd:devOk d=true):y∈candA d t pin 4↔∃r k s:Int,(0≤r∧r≤3)∧(0≤k∧k<d.T)∧(1≤s∧s≤wlen k)∧useOf d pin r k s=true∧y=cand d t r k s∧0≤y:=by
 rw [mem_candA]
 constructor
 ·rintro ⟨r,hr,h⟩
  obtain ⟨k,hk,h⟩:=mem_candR.1 h
  obtain ⟨s,hs,h⟩:=mem_candK.1 h
  obtain ⟨h1,h2,h3⟩:=mem_candS.1 h
  exact ⟨r,k,(s:Int)+1,by omega,by omega,by omega,h1,h2,by omega⟩
 ·rintro ⟨r,k,s,hr,hk,hs,h1,h2,h3⟩
  refine ⟨r.toNat,by omega,mem_candR.2 ⟨k.toNat,by omega,mem_candK.2 ⟨(s - 1).toNat,by rw [show ((k.toNat:Nat):Int)=k by omega];omega,mem_candS.2 ?_⟩⟩⟩
  rw [show ((r.toNat:Nat):Int)=r by omega,show ((k.toNat:Nat):Int)=k by omega,show (((s - 1).toNat:Nat):Int)+1=s by omega]
  exact ⟨h1,h2,by omega⟩
theorem candS_nodup (d:Dev) (t pin r k s:Int):(candS d t pin r k s).Nodup:=by
 unfold candS oneOf
 split
 ·split <;> simp
 ·simp
theorem range_ne (n:Nat):(List.range n).Pairwise (·≠·):=List.nodup_range
theorem candA_nodup (d:Dev) (hd:devOk d=true) (t pin:Int):(candA d t pin 4).Nodup:=by
 have hk:∀r k:Int,0≤r∧r≤3→∀s:Nat,(candK d t pin r k s).Nodup:=by
  intro r k hr s
  unfold List.Nodup candK
  rw [List.pairwise_flatMap]
  refine ⟨fun a _=>candS_nodup _ _ _ _ _ _,(range_ne _).imp ?_⟩
  intro a b hab x hx y hy e
  obtain ⟨_,rfl,h1⟩:=mem_candS.1 hx
  obtain ⟨_,rfl,h2⟩:=mem_candS.1 hy
  have e1:=(cand_mod hd h1).1
  have e2:=(cand_mod hd h2).1
  rw [e,e2] at e1
  have g1:=(tileIn_iff.1 (cand_ge hd h1).1).2.1
  have g2:=(tileIn_iff.1 (cand_ge hd h2).1).2.1
  have:=step_inj hd (by omega) (by omega) g2 g1 e1
  omega
 have hr:∀r:Int,0≤r∧r≤3→(candR d t pin r d.T.toNat).Nodup:=by
  intro r hr
  unfold List.Nodup candR
  rw [List.pairwise_flatMap]
  refine ⟨fun a _=>hk _ _ hr _,(range_ne _).imp ?_⟩
  intro a b hab x hx y hy e
  obtain ⟨_,_,hx⟩:=mem_candK.1 hx
  obtain ⟨_,_,hy⟩:=mem_candK.1 hy
  obtain ⟨_,rfl,h1⟩:=mem_candS.1 hx
  obtain ⟨_,rfl,h2⟩:=mem_candS.1 hy
  have e1:=(cand_mod hd h1).2.1
  have e2:=(cand_mod hd h2).2.1
  rw [e,e2] at e1
  have g1:=(cand_ge hd h1).2.2.1
  have g2:=(cand_ge hd h2).2.2.1
  have:=(rk_inj g2.1 g2.2 g1.1 g1.2 e1).2
  omega
 unfold List.Nodup candA
 rw [List.pairwise_flatMap]
 refine ⟨fun a ha=>hr _ (by have:=List.mem_range.1 ha;omega),(range_ne _).imp ?_⟩
 intro a b hab x hx y hy e
 obtain ⟨_,_,hx⟩:=mem_candR.1 hx
 obtain ⟨_,_,hy⟩:=mem_candR.1 hy
 obtain ⟨_,_,hx⟩:=mem_candK.1 hx
 obtain ⟨_,_,hy⟩:=mem_candK.1 hy
 obtain ⟨_,rfl,h1⟩:=mem_candS.1 hx
 obtain ⟨_,rfl,h2⟩:=mem_candS.1 hy
 have e1:=(cand_mod hd h1).2.1
 have e2:=(cand_mod hd h2).2.1
 rw [e,e2] at e1
 have g1:=(cand_ge hd h1).2.2.1
 have g2:=(cand_ge hd h2).2.2.1
 have:=(rk_inj g2.1 g2.2 g1.1 g1.2 e1).1
 omega
theorem outPins_bd (d:Dev) (t:Int):outPins (kindOf d t)=1∨outPins (kindOf d t)=2:=by
 rcases kindOf_bd d t with h|h|h <;> rw [h] <;> simp [outPins]
theorem inPins_bd (d:Dev) (t:Int):1≤inPins (kindOf d t)∧inPins (kindOf d t)≤5:=by
 rcases kindOf_bd d t with h|h|h <;> rw [h] <;> simp [inPins]
theorem outPin_eq {d:Dev} {t p:Int} (ht:tileIn d t=true) (h0:0≤p) (h1:p<outPins (kindOf d t)):outPin d t p=t * perT d+5+p:=by rw [outPin,if_pos ⟨ht,h0,h1⟩]
theorem outPin_mod {d:Dev} {t p:Int} (ht:tileIn d t=true) (h0:0≤p) (h1:p<outPins (kindOf d t)):outPin d t p / perT d=t∧outPin d t p % perT d=5+p∧0≤outPin d t p:=by
 have hp:=perT_bd (tileIn_iff.1 ht).1
 have:=outPins_bd d t
 rw [outPin_eq ht h0 h1]
 have:=divmod_of (a:=t * perT d+5+p) (b:=perT d) (q:=t) (r:=5+p) (by omega) (by omega) (by omega)
 have h3:=Int.mul_nonneg (tileIn_iff.1 ht).2.1 (show 0≤perT d by omega)
 exact ⟨this.1,this.2,by omega⟩
theorem mem_outsOf {d:Dev} {t y:Int}:y∈outsOf d t↔∃p,(0≤p∧p<outPins (kindOf d t))∧y=outPin d t p:=by
 unfold outsOf
 have:=outPins_bd d t
 split
 ·simp only [List.mem_cons,List.not_mem_nil,or_false]
  constructor
  ·rintro (rfl|rfl)
   ·exact ⟨0,by omega,rfl⟩
   ·exact ⟨1,by omega,rfl⟩
  ·rintro ⟨p,hp,rfl⟩
   have:p=0∨p=1:=by omega
   rcases this with rfl|rfl <;> simp
 ·simp only [List.mem_cons,List.not_mem_nil,or_false]
  constructor
  ·rintro rfl
   exact ⟨0,by omega,rfl⟩
  ·rintro ⟨p,hp,rfl⟩
   have:p=0:=by omega
   rw [this]
theorem items_nodup {d:Dev} {t pin:Int} (ht:tileIn d t=true):(itemsOf d t pin).Nodup:=by
 have hd:=(tileIn_iff.1 ht).1
 unfold itemsOf List.Nodup
 rw [List.pairwise_append]
 have:=outPins_bd d t
 refine ⟨?_,candA_nodup d hd t pin,?_⟩
 ·split
  ·unfold outsOf
   split
   ·have e0:=(outPin_mod ht (p:=0) (by omega) (by omega)).2.1
    have e1:=(outPin_mod ht (p:=1) (by omega) (by omega)).2.1
    simp only [List.pairwise_cons,List.mem_singleton,List.not_mem_nil,List.Pairwise.nil,and_true]
    refine ⟨?_,by simp⟩
    rintro a rfl e
    rw [e,e1] at e0
    omega
   ·simp
  ·simp
 ·intro x hx y hy e
  split at hx
  ·obtain ⟨p,hp,rfl⟩:=mem_outsOf.1 hx
   obtain ⟨r,k,s,_,_,_,_,h1,h2⟩:=(mem_candA' hd).1 hy
   have e1:=(outPin_mod ht hp.1 hp.2).2.1
   have e2:=(cand_mod hd (show 0≤cand d t r k s by omega))
   rw [e,h1,e2.2.1] at e1
   omega
  ·simp at hx
theorem sorted_srcs {d:Dev} {n:Int} {l:List Int} (h:nodeOk d n=true) (hn:¬(n % perT d=5∨n % perT d=6)) (hp:l.Perm (itemsOf d (n / perT d) (n % perT d))) (hs:l.Pairwise (·≤·)):l=srcs d n:=by
 have h':=h
 unfold nodeOk at h'
 rw [Bool.and_eq_true] at h'
 rw [srcs,if_pos ⟨h,hn⟩]
 exact sorted_asc hp hs (items_nodup (node_tile h'.1))
end Go.Proofs.YtignkfhdkcgkgaaGreat

namespace Go.Proofs.YtignkfhdkcgkgaaGreat
set_option maxRecDepth 100000
open Go.RowKit

set_option maxHeartbeats 400000 in
theorem pinPins_any (k:Int) (w:World) :
  Calls Tryz.prog 193 #[.int .i64 k] w fun e w'=>e = .returned (.int .i64 (inPins k))∧w=w':=by
 by_cases h0:k=0
 ·subst h0
  go_enter Tryz.func193,Tryz.ntmps193
  go_wp2
  go_ret
  exact ⟨rfl,rfl⟩
 by_cases h1:k=1
 ·subst h1
  go_enter Tryz.func193,Tryz.ntmps193
  go_wp2
  go_ret
  exact ⟨rfl,rfl⟩
 by_cases h2:k=2
 ·subst h2
  go_enter Tryz.func193,Tryz.ntmps193
  go_wp2
  go_ret
  exact ⟨rfl,rfl⟩
 have e0:(k==0)=false:=by simpa using h0
 have e1:(k==1)=false:=by simpa using h1
 have e2:(k==2)=false:=by simpa using h2
 go_enter Tryz.func193,Tryz.ntmps193
 go_wp2
 go_ret
 exact ⟨ret_int (by simp [inPins,h0,h1,h2]),rfl⟩
set_option maxHeartbeats 400000 in
theorem sinPins_any (k:Int) (w:World) :
  Calls Tryz.prog 222 #[.int .i64 k] w fun e w'=>e = .returned (.int .i64 (inPins k))∧w=w':=by
 by_cases h0:k=0
 ·subst h0
  go_enter Tryz.func222,Tryz.ntmps222
  go_wp2
  go_ret
  exact ⟨rfl,rfl⟩
 by_cases h1:k=1
 ·subst h1
  go_enter Tryz.func222,Tryz.ntmps222
  go_wp2
  go_ret
  exact ⟨rfl,rfl⟩
 by_cases h2:k=2
 ·subst h2
  go_enter Tryz.func222,Tryz.ntmps222
  go_wp2
  go_ret
  exact ⟨rfl,rfl⟩
 have e0:(k==0)=false:=by simpa using h0
 have e1:(k==1)=false:=by simpa using h1
 have e2:(k==2)=false:=by simpa using h2
 go_enter Tryz.func222,Tryz.ntmps222
 go_wp2
 go_ret
 exact ⟨ret_int (by simp [inPins,h0,h1,h2]),rfl⟩
set_option maxHeartbeats 400000 in
theorem poutPins_any (k:Int) (w:World) :
  Calls Tryz.prog 194 #[.int .i64 k] w fun e w'=>e = .returned (.int .i64 (outPins k))∧w=w':=by
 by_cases h0:k=0
 ·subst h0
  go_enter Tryz.func194,Tryz.ntmps194
  go_wp2
  go_ret
  exact ⟨rfl,rfl⟩
 by_cases h1:k=1
 ·subst h1
  go_enter Tryz.func194,Tryz.ntmps194
  go_wp2
  go_ret
  exact ⟨rfl,rfl⟩
 by_cases h2:k=2
 ·subst h2
  go_enter Tryz.func194,Tryz.ntmps194
  go_wp2
  go_ret
  exact ⟨rfl,rfl⟩
 have e0:(k==0)=false:=by simpa using h0
 have e1:(k==1)=false:=by simpa using h1
 have e2:(k==2)=false:=by simpa using h2
 go_enter Tryz.func194,Tryz.ntmps194
 go_wp2
 go_ret
 exact ⟨ret_int (by simp [outPins,h0,h1,h2]),rfl⟩
set_option maxHeartbeats 400000 in
theorem soutPins_any (k:Int) (w:World) :
  Calls Tryz.prog 187 #[.int .i64 k] w fun e w'=>e = .returned (.int .i64 (outPins k))∧w=w':=by
 by_cases h0:k=0
 ·subst h0
  go_enter Tryz.func187,Tryz.ntmps187
  go_wp2
  go_ret
  exact ⟨rfl,rfl⟩
 by_cases h1:k=1
 ·subst h1
  go_enter Tryz.func187,Tryz.ntmps187
  go_wp2
  go_ret
  exact ⟨rfl,rfl⟩
 by_cases h2:k=2
 ·subst h2
  go_enter Tryz.func187,Tryz.ntmps187
  go_wp2
  go_ret
  exact ⟨rfl,rfl⟩
 have e0:(k==0)=false:=by simpa using h0
 have e1:(k==1)=false:=by simpa using h1
 have e2:(k==2)=false:=by simpa using h2
 go_enter Tryz.func187,Tryz.ntmps187
 go_wp2
 go_ret
 exact ⟨ret_int (by simp [outPins,h0,h1,h2]),rfl⟩

set_option maxHeartbeats 400000 in
theorem wireLength_any (k:Int) (w:World) (h0:0≤k) (h1:k≤1099511627776) :
  Calls Tryz.prog 197 #[.int .i64 k] w fun e w'=>e = .returned (.int .i64 (wlen k))∧w=w':=by
 unfold wlen
 go_enter Tryz.func197,Tryz.ntmps197
 go_wp2
 go_ret
 exact ⟨rfl,rfl⟩

set_option maxHeartbeats 1000000 in
theorem tileOk_any (d:Dev) (t:Int) (w:World) :
  Calls Tryz.prog 232 #[.agg #[.int .i64 d.W,.int .i64 d.H,.int .i64 d.T,.int .i64 d.R],.int .i64 t] w fun e w'=>e = .returned (.bool (tileIn d t))∧Below w.heap.size w w':=by
 go_enter Tryz.func232,Tryz.ntmps232
 go_wp2_with fail
 refine (deviceOk_any d _).mono ?_
 rintro e w1 ⟨rfl,b1⟩
 have B1:=Lib.hid (below_tr (below_new (Below.refl _ _) _) b1)
 obtain ⟨hcc,hff⟩:=bcell b1
 clear b1
 cases hd:devOk d with
 | false =>
  have HD:=Lib.hid hd
  clear hd
  go_wp2_with fail
  go_ret
  exact ⟨ret_bool (by simp [tileIn,HD.out]),B1.out⟩
 | true =>
  obtain ⟨hN,hN1,hN2⟩:=tiles_eq hd
  have HD:=Lib.hid hd
  have HN:=Lib.hid hN
  clear hd
  go_wp2_with (go_at_call 116;refine (inRange_any _ _ _ _).mono ?_;rintro e w' ⟨rfl,rfl⟩)
  go_ret
  refine ⟨ret_bool ?_,B1.out⟩
  rw [Bool.eq_iff_iff,inR_iff,tileIn_iff,HD.out,HN.out]
  simp only [true_and]
  omega

theorem inR_call {n lo hi:Int} {b:Bool} (h:inR n lo hi=b) (w:World):Calls Tryz.prog 116 #[.int .i64 n,.int .i64 lo,.int .i64 hi] w fun e w'=>e = .returned (.bool b)∧w=w':=by
 have:=inRange_any n lo hi w
 rwa [h] at this

theorem st_bd {d:Dev} {t r s:Int} (ht:tileIn d t=true) (h0:0≤s) (h1:s≤6):-6≤stX d t r s∧stX d t r s≤12∧-6≤stY d t r s∧stY d t r s≤12:=by
 obtain ⟨a,b,c,e,_⟩:=tile_xy ht
 have:=devOk_bd (tileIn_iff.1 ht).1
 unfold stX stY
 refine ⟨?_,?_,?_,?_⟩ <;> repeat' split
 all_goals omega

set_option maxHeartbeats 1000000 in
theorem tileStep_any (d:Dev) (t r s:Int) (w:World) (ht:tileIn d t=true) (h0:0≤s) (h1:s≤6) :
  Calls Tryz.prog 196 #[.agg #[.int .i64 d.W,.int .i64 d.H,.int .i64 d.T,.int .i64 d.R],.int .i64 t,.int .i64 r,.int .i64 s] w fun e w'=>e = .returned (.int .i64 (stepOf d t r s))∧Below w.heap.size w w':=by
 have hd:=(tileIn_iff.1 ht).1
 have ht0:=(tileIn_iff.1 ht).2.1
 have ht1:=(tileIn_iff.1 ht).2.2
 have hWH:=dev_WH hd
 obtain ⟨hw1,hw2,hh1,hh2,_⟩:=devOk_bd hd
 obtain ⟨x0,x1,y0,y1,-⟩:=tile_xy ht
 have hst:=st_bd (r:=r) ht h0 h1
 have e0:¬d.W=0:=by omega
 have e1:t.tmod d.W=t % d.W:=Int.tmod_eq_emod_of_nonneg ht0
 have e2:IntKind.i64.wrap (t.tdiv d.W)=t / d.W:=IntWalk.i64_quo _ _ ⟨ht0,by omega,by omega⟩
 have HS:=Lib.hid (show stIn d t r s=(inR (stX d t r s) 0 (d.W - 1) && inR (stY d t r s) 0 (d.H - 1)) from rfl)
 have HT:=Lib.hid (show stepOf d t r s=if stIn d t r s=true then stY d t r s * d.W+stX d t r s else -1 from rfl)
 have HX:Hid (stX d t r s=if r=0 then t % d.W+s else if r=2 then t % d.W - s else t % d.W):=rfl
 have HY:Hid (stY d t r s=if r=1 then t / d.W+s else if r=0 then t / d.W else if r=2 then t / d.W else t / d.W - s):=rfl
 have HM:=Lib.hid (fun (h:0≤stY d t r s∧stY d t r s≤d.H - 1)=>mul_bd h.1 (show stY d t r s≤5 by omega) (show 0≤d.W by omega) (show d.W≤6 by omega))
 generalize stX d t r s=X at *
 generalize stY d t r s=Y at *
 generalize stepOf d t r s=P at *
 generalize stIn d t r s=B at *
 clear ht hd
 have hcase:r=0∨r=1∨r=2∨(¬r=0∧¬r=1∧¬r=2):=by omega
 have hX1:(r=0→X=t % d.W+s)∧(r=2→X=t % d.W - s)∧(¬r=0∧¬r=2→X=t % d.W):=by
  rw [HX.out]
  refine ⟨fun h=>if_pos h,fun h=>by rw [if_neg (by omega),if_pos h],fun h=>by rw [if_neg h.1,if_neg h.2]⟩
 have hY1:(r=1→Y=t / d.W+s)∧(r=0∨r=2→Y=t / d.W)∧(¬r=0∧¬r=1∧¬r=2→Y=t / d.W - s):=by
  rw [HY.out]
  refine ⟨fun h=>if_pos h,fun h=>?_,fun h=>by rw [if_neg h.2.1,if_neg h.1,if_neg h.2.2]⟩
  rcases h with h|h
  ·rw [if_neg (by omega),if_pos h]
  ·rw [if_neg (by omega),if_neg (by omega),if_pos h]
 clear HX HY
 rcases hcase with h|h|h|⟨g0,g1,g2⟩
 ·obtain rfl:=hX1.1 h
  obtain rfl:=hY1.2.1 (.inl h)
  subst h
  clear hX1 hY1
  go_enter Tryz.func196,Tryz.ntmps196
  go_wp2_with fail
  go_quiet (fail)
  clear e1 e2
  cases hX:inR (t % d.W+s) 0 (d.W - 1) with
  | false =>
   have HXX:=Lib.hid hX
   clear hX
   go_wp2_with (go_at_call 116;refine (inR_call HXX.out _).mono ?_;rintro e w' ⟨rfl,rfl⟩)
   go_ret
   exact ⟨ret_int (by rw [HT.out,HS.out,HXX.out];rfl),below_drewN (below_new (Below.refl _ _) _) _⟩
  | true =>
   have HXX:=Lib.hid hX
   clear hX
   cases hY:inR (t / d.W) 0 (d.H - 1) with
   | false =>
    have HYY:=Lib.hid hY
    clear hY
    go_wp2_with (go_at_call 116;(first|((with_reducible refine (inR_call HXX.out _).mono ?_);rintro e w' ⟨rfl,rfl⟩)|((with_reducible refine (inR_call HYY.out _).mono ?_);rintro e w' ⟨rfl,rfl⟩)))
    go_ret
    exact ⟨ret_int (by rw [HT.out,HS.out,HXX.out,HYY.out];rfl),below_drewN (below_new (Below.refl _ _) _) _⟩
   | true =>
    have HYY:=Lib.hid hY
    have hM:=HM.out (inR_iff.1 hY)
    have hx2:=(inR_iff.1 HXX.out)
    clear hY
    go_wp2_with (go_at_call 116;(first|((with_reducible refine (inR_call HXX.out _).mono ?_);rintro e w' ⟨rfl,rfl⟩)|((with_reducible refine (inR_call HYY.out _).mono ?_);rintro e w' ⟨rfl,rfl⟩)))
    go_ret
    exact ⟨ret_int (by rw [HT.out,HS.out,HXX.out,HYY.out];first|rfl|(simp;done)|(simp;omega)),below_drewN (below_new (Below.refl _ _) _) _⟩
 ·obtain rfl:=hX1.2.2 ⟨by omega,by omega⟩
  obtain rfl:=hY1.1 h
  subst h
  clear hX1 hY1
  go_enter Tryz.func196,Tryz.ntmps196
  go_wp2_with fail
  go_quiet (fail)
  clear e1 e2
  cases hX:inR (t % d.W) 0 (d.W - 1) with
  | false =>
   have HXX:=Lib.hid hX
   clear hX
   go_wp2_with (go_at_call 116;refine (inR_call HXX.out _).mono ?_;rintro e w' ⟨rfl,rfl⟩)
   go_ret
   exact ⟨ret_int (by rw [HT.out,HS.out,HXX.out];rfl),below_drewN (below_new (Below.refl _ _) _) _⟩
  | true =>
   have HXX:=Lib.hid hX
   clear hX
   cases hY:inR (t / d.W+s) 0 (d.H - 1) with
   | false =>
    have HYY:=Lib.hid hY
    clear hY
    go_wp2_with (go_at_call 116;(first|((with_reducible refine (inR_call HXX.out _).mono ?_);rintro e w' ⟨rfl,rfl⟩)|((with_reducible refine (inR_call HYY.out _).mono ?_);rintro e w' ⟨rfl,rfl⟩)))
    go_ret
    exact ⟨ret_int (by rw [HT.out,HS.out,HXX.out,HYY.out];rfl),below_drewN (below_new (Below.refl _ _) _) _⟩
   | true =>
    have HYY:=Lib.hid hY
    have hM:=HM.out (inR_iff.1 hY)
    have hx2:=(inR_iff.1 HXX.out)
    clear hY
    go_wp2_with (go_at_call 116;(first|((with_reducible refine (inR_call HXX.out _).mono ?_);rintro e w' ⟨rfl,rfl⟩)|((with_reducible refine (inR_call HYY.out _).mono ?_);rintro e w' ⟨rfl,rfl⟩)))
    go_ret
    exact ⟨ret_int (by rw [HT.out,HS.out,HXX.out,HYY.out];first|rfl|(simp;done)|(simp;omega)),below_drewN (below_new (Below.refl _ _) _) _⟩
 ·obtain rfl:=hX1.2.1 h
  obtain rfl:=hY1.2.1 (.inr h)
  subst h
  clear hX1 hY1
  go_enter Tryz.func196,Tryz.ntmps196
  go_wp2_with fail
  go_quiet (fail)
  clear e1 e2
  cases hX:inR (t % d.W - s) 0 (d.W - 1) with
  | false =>
   have HXX:=Lib.hid hX
   clear hX
   go_wp2_with (go_at_call 116;refine (inR_call HXX.out _).mono ?_;rintro e w' ⟨rfl,rfl⟩)
   go_ret
   exact ⟨ret_int (by rw [HT.out,HS.out,HXX.out];rfl),below_drewN (below_new (Below.refl _ _) _) _⟩
  | true =>
   have HXX:=Lib.hid hX
   clear hX
   cases hY:inR (t / d.W) 0 (d.H - 1) with
   | false =>
    have HYY:=Lib.hid hY
    clear hY
    go_wp2_with (go_at_call 116;(first|((with_reducible refine (inR_call HXX.out _).mono ?_);rintro e w' ⟨rfl,rfl⟩)|((with_reducible refine (inR_call HYY.out _).mono ?_);rintro e w' ⟨rfl,rfl⟩)))
    go_ret
    exact ⟨ret_int (by rw [HT.out,HS.out,HXX.out,HYY.out];rfl),below_drewN (below_new (Below.refl _ _) _) _⟩
   | true =>
    have HYY:=Lib.hid hY
    have hM:=HM.out (inR_iff.1 hY)
    have hx2:=(inR_iff.1 HXX.out)
    clear hY
    go_wp2_with (go_at_call 116;(first|((with_reducible refine (inR_call HXX.out _).mono ?_);rintro e w' ⟨rfl,rfl⟩)|((with_reducible refine (inR_call HYY.out _).mono ?_);rintro e w' ⟨rfl,rfl⟩)))
    go_ret
    exact ⟨ret_int (by rw [HT.out,HS.out,HXX.out,HYY.out];first|rfl|(simp;done)|(simp;omega)),below_drewN (below_new (Below.refl _ _) _) _⟩
 ·obtain rfl:=hX1.2.2 ⟨g0,g2⟩
  obtain rfl:=hY1.2.2 ⟨g0,g1,g2⟩
  clear hX1 hY1
  have q0:(r==0)=false:=by simpa using g0
  have q1:(r==1)=false:=by simpa using g1
  have q2:(r==2)=false:=by simpa using g2
  clear g0 g1 g2
  go_enter Tryz.func196,Tryz.ntmps196
  go_wp2_with fail
  go_quiet (fail)
  clear e1 e2
  cases hX:inR (t % d.W) 0 (d.W - 1) with
  | false =>
   have HXX:=Lib.hid hX
   clear hX
   go_wp2_with (go_at_call 116;refine (inR_call HXX.out _).mono ?_;rintro e w' ⟨rfl,rfl⟩)
   go_ret
   exact ⟨ret_int (by rw [HT.out,HS.out,HXX.out];rfl),below_drewN (below_new (Below.refl _ _) _) _⟩
  | true =>
   have HXX:=Lib.hid hX
   clear hX
   cases hY:inR (t / d.W - s) 0 (d.H - 1) with
   | false =>
    have HYY:=Lib.hid hY
    clear hY
    go_wp2_with (go_at_call 116;(first|((with_reducible refine (inR_call HXX.out _).mono ?_);rintro e w' ⟨rfl,rfl⟩)|((with_reducible refine (inR_call HYY.out _).mono ?_);rintro e w' ⟨rfl,rfl⟩)))
    go_ret
    exact ⟨ret_int (by rw [HT.out,HS.out,HXX.out,HYY.out];rfl),below_drewN (below_new (Below.refl _ _) _) _⟩
   | true =>
    have HYY:=Lib.hid hY
    have hM:=HM.out (inR_iff.1 hY)
    have hx2:=(inR_iff.1 HXX.out)
    clear hY
    go_wp2_with (go_at_call 116;(first|((with_reducible refine (inR_call HXX.out _).mono ?_);rintro e w' ⟨rfl,rfl⟩)|((with_reducible refine (inR_call HYY.out _).mono ?_);rintro e w' ⟨rfl,rfl⟩)))
    go_ret
    exact ⟨ret_int (by rw [HT.out,HS.out,HXX.out,HYY.out];first|rfl|(simp;done)|(simp;omega)),below_drewN (below_new (Below.refl _ _) _) _⟩
end Go.Proofs.YtignkfhdkcgkgaaGreat

namespace Go.Proofs.YtignkfhdkcgkgaaGreat
set_option maxRecDepth 100000
open Go.RowKit

set_option maxHeartbeats 400000 in
theorem perTile_any (d:Dev) (w:World) (h0:0≤d.T) (h1:d.T≤1099511627776) :
  Calls Tryz.prog 76 #[.agg #[.int .i64 d.W,.int .i64 d.H,.int .i64 d.T,.int .i64 d.R]] w fun e w'=>e = .returned (.int .i64 (perT d))∧Below w.heap.size w w':=by
 unfold perT
 go_enter Tryz.func76,Tryz.ntmps76
 go_wp2
 go_ret
 exact ⟨rfl,below_new (Below.refl _ _) _⟩

set_option maxHeartbeats 1000000 in
theorem routeNodes_any (d:Dev) (w:World) (hd:devOk d=true) :
  Calls Tryz.prog 140 #[.agg #[.int .i64 d.W,.int .i64 d.H,.int .i64 d.T,.int .i64 d.R]] w fun e w'=>e = .returned (.int .i64 (nodesOf d))∧Below w.heap.size w w':=by
 have hT:=devOk_bd hd
 have hWH:=dev_WH hd
 have hp:=perT_bd hd
 have hn:=nodesOf_bd hd
 have HN:=Lib.hid (show nodesOf d=d.W * d.H * perT d from rfl)
 rw [HN.out] at hn
 have hD:Below (w.alloc (.cells #[.int .i64 d.W,.int .i64 d.H,.int .i64 d.T,.int .i64 d.R] 25)).heap.size (w.alloc (.cells #[.int .i64 d.W,.int .i64 d.H,.int .i64 d.T,.int .i64 d.R] 25)) (w.alloc (.cells #[.int .i64 d.W,.int .i64 d.H,.int .i64 d.T,.int .i64 d.R] 25)):=Below.refl _ _
 go_enter Tryz.func140,Tryz.ntmps140
 go_wp2_with fail
 go_region_held3 (fun w'=>Below (w.alloc (.cells #[.int .i64 d.W,.int .i64 d.H,.int .i64 d.T,.int .i64 d.R] 25)).heap.size (w.alloc (.cells #[.int .i64 d.W,.int .i64 d.H,.int .i64 d.T,.int .i64 d.R] 25)) w'∧∀b o,b<(w.alloc (.cells #[.int .i64 d.W,.int .i64 d.H,.int .i64 d.T,.int .i64 d.R] 25)).heap.size→w'.cell? ⟨b,o,none⟩=(w.alloc (.cells #[.int .i64 d.W,.int .i64 d.H,.int .i64 d.T,.int .i64 d.R] 25)).cell? ⟨b,o,none⟩)
  (first|exact ⟨hD,(bcell hD).1⟩|exact ⟨hD.drew,(bcell hD.drew).1⟩)
  (first
   | (go_at_call 76;(with_reducible refine (perTile_any d _ (by omega) (by omega)).mono ?_);rintro e w2 ⟨rfl,b2⟩;(first|(with_reducible replace hD:=below_tr hD b2)|(with_reducible replace hD:=below_tr hD.drew b2));clear b2))
 all_goals
  go_wp2_with fail
  go_ret
  exact ⟨ret_int (by rw [IntWalk.i64_in (d.W * d.H) (by omega),IntWalk.i64_in _ (by omega),HN.out]),below_tr (below_new (Below.refl _ _) _) hD⟩

set_option maxHeartbeats 1000000 in
theorem nodePlace_any (d:Dev) (n:Int) (w:World) (hn:nodeIn d n=true) :
  Calls Tryz.prog 117 #[.agg #[.int .i64 d.W,.int .i64 d.H,.int .i64 d.T,.int .i64 d.R],.int .i64 n] w fun e w'=>e = .returned (.tuple #[.int .i64 (n / perT d),.int .i64 (n % perT d)])∧Below w.heap.size w w':=by
 obtain ⟨hd,n0,n1,hq0,hq1,hr0,hr1⟩:=node_tk hn
 have hT:=devOk_bd hd
 have hWH:=dev_WH hd
 have hp:=perT_bd hd
 have e0:¬perT d=0:=by omega
 have e1:n.tmod (perT d)=n % perT d:=Int.tmod_eq_emod_of_nonneg n0
 have e2:IntKind.i64.wrap (n.tdiv (perT d))=n / perT d:=IntWalk.i64_quo _ _ ⟨n0,by omega,by omega⟩
 have hD:Below (w.alloc (.cells #[.int .i64 d.W,.int .i64 d.H,.int .i64 d.T,.int .i64 d.R] 25)).heap.size (w.alloc (.cells #[.int .i64 d.W,.int .i64 d.H,.int .i64 d.T,.int .i64 d.R] 25)) (w.alloc (.cells #[.int .i64 d.W,.int .i64 d.H,.int .i64 d.T,.int .i64 d.R] 25)):=Below.refl _ _
 clear hd hn
 go_enter Tryz.func117,Tryz.ntmps117
 go_wp2_with fail
 go_region_held3 (fun w'=>Below (w.alloc (.cells #[.int .i64 d.W,.int .i64 d.H,.int .i64 d.T,.int .i64 d.R] 25)).heap.size (w.alloc (.cells #[.int .i64 d.W,.int .i64 d.H,.int .i64 d.T,.int .i64 d.R] 25)) w'∧∀b o,b<(w.alloc (.cells #[.int .i64 d.W,.int .i64 d.H,.int .i64 d.T,.int .i64 d.R] 25)).heap.size→w'.cell? ⟨b,o,none⟩=(w.alloc (.cells #[.int .i64 d.W,.int .i64 d.H,.int .i64 d.T,.int .i64 d.R] 25)).cell? ⟨b,o,none⟩)
  (first|exact ⟨hD,(bcell hD).1⟩|exact ⟨hD.drew,(bcell hD.drew).1⟩)
  (first
   | (go_at_call 76;(with_reducible refine (perTile_any d _ (by omega) (by omega)).mono ?_);rintro e w2 ⟨rfl,b2⟩;(first|(with_reducible replace hD:=below_tr hD b2)|(with_reducible replace hD:=below_tr hD.drew b2));clear b2))
 all_goals
  go_wp2_with fail
  go_ret2
  exact ⟨rfl,below_tr (below_new (Below.refl _ _) _) hD⟩
set_option maxHeartbeats 1000000 in
theorem wireOf_any (d:Dev) (n:Int) (w:World) (hn:nodeIn d n=true) (h7:7≤n % perT d) :
  Calls Tryz.prog 195 #[.agg #[.int .i64 d.W,.int .i64 d.H,.int .i64 d.T,.int .i64 d.R],.int .i64 n] w fun e w'=>e = .returned (.tuple #[.int .i64 (n / perT d),.int .i64 ((n % perT d - 7) / d.T),.int .i64 ((n % perT d - 7) % d.T),.bool true])∧Below w.heap.size w w':=by
 obtain ⟨hd,n0,n1,hq0,hq1,hr0,hr1⟩:=node_tk hn
 have HN:=Lib.hid hn
 have hT:=devOk_bd hd
 have hp:=perT_bd hd
 clear hn
 go_enter Tryz.func195,Tryz.ntmps195
 go_wp2_with fail
 refine (nodePlace_any d n _ HN.out).mono ?_
 rintro e w1 ⟨rfl,b1⟩
 have hb1:=b1.size
 simp only [World.size_alloc] at hb1
 obtain ⟨hcc,hff⟩:=bcell b1
 have B1:=Lib.hid (below_tr (below_new (Below.refl _ _) _) b1)
 clear b1
 generalize hk:n % perT d=k at *
 generalize hq:n / perT d=q at *
 have HK:=Lib.hid hk
 have HQ:=Lib.hid hq
 clear hk hq HN
 have e0:¬d.T=0:=by omega
 have e1:(k - 7).tmod d.T=(k - 7) % d.T:=Int.tmod_eq_emod_of_nonneg (by omega)
 have e2:IntKind.i64.wrap ((k - 7).tdiv d.T)=(k - 7) / d.T:=IntWalk.i64_quo _ _ ⟨by omega,by omega,by omega⟩
 have e3:IntKind.i64.wrap (k - 7)=k - 7:=IntWalk.i64_in _ (by omega)
 have hh:decide (k≥7)=true:=by simpa using h7
 go_wp2_with fail
 go_quiet (fail)
 go_wp2_with fail
 exact bodyPost_ret (v := .tuple #[.int .i64 q,.int .i64 ((k - 7) / d.T),.int .i64 ((k - 7) % d.T),.bool true]) (by simp [results,Tryz.results195,go_sem]) rfl ⟨by rw [HK.out,HQ.out],below_drewN B1.out _⟩

theorem tileOk_is {d:Dev} {t:Int} {b:Bool} (h:tileIn d t=b) (w:World):Calls Tryz.prog 232 #[.agg #[.int .i64 d.W,.int .i64 d.H,.int .i64 d.T,.int .i64 d.R],.int .i64 t] w fun e w'=>e = .returned (.bool b)∧Below w.heap.size w w':=by
 have:=tileOk_any d t w
 rwa [h] at this
theorem tileStep_is {d:Dev} {t r s p:Int} (h:stepOf d t r s=p) (ht:tileIn d t=true) (h0:0≤s) (h1:s≤6) (w:World):Calls Tryz.prog 196 #[.agg #[.int .i64 d.W,.int .i64 d.H,.int .i64 d.T,.int .i64 d.R],.int .i64 t,.int .i64 r,.int .i64 s] w fun e w'=>e = .returned (.int .i64 p)∧Below w.heap.size w w':=by
 have:=tileStep_any d t r s w ht h0 h1
 rwa [h] at this

set_option maxHeartbeats 1000000 in
theorem poutPin_any (d:Dev) (t p:Int) (w:World) :
  Calls Tryz.prog 228 #[.agg #[.int .i64 d.W,.int .i64 d.H,.int .i64 d.T,.int .i64 d.R],.int .i64 t,.int .i64 p] w fun e w'=>e = .returned (.int .i64 (outPin d t p))∧Below w.heap.size w w':=by
 have HO:Hid (outPin d t p=if tileIn d t=true∧0≤p∧p<outPins (kindOf d t) then t * perT d+5+p else -1):=rfl
 go_enter Tryz.func228,Tryz.ntmps228
 go_wp2_with fail
 cases ht:tileIn d t with
 | false =>
  refine (tileOk_is ht _).mono ?_
  rintro e w1 ⟨rfl,b1⟩
  have B1:=Lib.hid (below_tr (below_new (Below.refl _ _) _) b1)
  have HT:=Lib.hid ht
  clear b1 ht
  go_wp2_with fail
  go_ret
  exact ⟨ret_int (by rw [HO.out,if_neg (by rw [HT.out];simp)]),B1.out⟩
 | true =>
  refine (tileOk_is ht _).mono ?_
  rintro e w1 ⟨rfl,b1⟩
  have B1:=Lib.hid (below_tr (below_new (Below.refl _ _) _) b1)
  have D1:=Lib.hid b1
  obtain ⟨hcc,hff⟩:=bcell b1
  have hs1:=b1.size
  simp only [World.size_alloc] at hs1
  obtain ⟨hd,ht0,ht1⟩:=tileIn_iff.1 ht
  have hWH:=dev_WH hd
  have hT:=devOk_bd hd
  have hp:=perT_bd hd
  have hop:=outPins_bd d t
  have HM:=Lib.hid (mul_bd ht0 (show t≤35 by omega) (show 0≤perT d by omega) hp.2)
  have HT:=Lib.hid ht
  have HD:=Lib.hid hd
  clear b1 ht hd
  go_wp2_with fail
  refine (tileKind_any d t _ HD.out ht0 (by omega)).mono ?_
  rintro e w2 ⟨rfl,b2⟩
  have B2:=Lib.hid (below_tr B1.out b2)
  have D2:=Lib.hid (below_tr D1.out b2)
  have hs2:=b2.size
  clear b2 hcc hff
  obtain ⟨hcc,hff⟩:=bcell D2.out
  generalize hK:kindOf d t=K at *
  have HK:=Lib.hid hK
  clear hK
  go_wp2_with (go_at_call 194;refine (poutPins_any _ _).mono ?_;rintro e w' ⟨rfl,rfl⟩)
  generalize hQ:outPins K=Q at *
  have HQ:=Lib.hid hQ
  clear hQ
  have e3:IntKind.i64.wrap (Q - 1)=Q - 1:=IntWalk.i64_in _ (by omega)
  cases hin:inR p 0 (Q - 1) with
  | false =>
   have HI:=Lib.hid hin
   clear hin
   go_wp2_with (go_at_call 116;refine (inR_call HI.out _).mono ?_;rintro e w' ⟨rfl,rfl⟩)
   go_ret
   exact ⟨ret_int (by rw [HO.out,if_neg];rintro ⟨_,h0,h1⟩;have:=inR_false.1 HI.out;omega),B2.out⟩
  | true =>
   have HI:=Lib.hid hin
   have hi:=inR_iff.1 hin
   clear hin
   go_wp2_with (go_at_call 116;refine (inR_call HI.out _).mono ?_;rintro e w' ⟨rfl,rfl⟩)
   refine (perTile_any d _ (by omega) (by omega)).mono ?_
   rintro e w3 ⟨rfl,b3⟩
   have B3:=Lib.hid (below_tr B2.out b3)
   have hM:=HM.out
   clear b3 hcc hff e3
   go_wp2_with fail
   go_ret
   exact ⟨ret_int (by rw [HO.out,if_pos ⟨HT.out,by omega,by omega⟩]),B3.out⟩
end Go.Proofs.YtignkfhdkcgkgaaGreat

namespace Go.Proofs.YtignkfhdkcgkgaaGreat
set_option maxRecDepth 100000
open Go.RowKit

/-- A world that holds what W holds: only memory was made. -/
structure Sub (W:World) where
 v:World
 h:Below W.heap.size W v
theorem sub_ne (W:World):Nonempty (Sub W):=⟨⟨W,Below.refl _ _⟩⟩
theorem sub_cell (W:World) (x:Sub W) (b o:Nat) (h:b<W.heap.size):x.v.cell? ⟨b,o,none⟩=W.cell? ⟨b,o,none⟩:=(bcell x.h).1 b o h
theorem wp_region_below {P:Program} (W:World) {id:Nat} {Q:Exit→Act→World→Prop} {a:Act} {w:World} {l:List Oper} (hm:P.follows .mixedOrders=true) (hB:Region.lexB .any l.toArray=true) (hC:Below W.heap.size W w)
  (h:wpQuiet P l.toArray (fun w'=>∃x:Sub W,w'=x.v) (fun a'=>∀w',(∃x:Sub W,w'=x.v)→Q .normal a' w') l a):(Code.region id l.toArray true).wp P Q a w :=
 wp_region_quiet (C:=fun w'=>∃x:Sub W,w'=x.v) hm hB ⟨⟨_,hC.drew⟩,rfl⟩ (by simpa using h)
/-- A callee's contract in such a region. -/
theorem calls_sub {P:Program} {f:FuncId} {args:Array Value} {W:World} {x:Sub W} {v:Value} (h:Calls P f args x.v fun e w'=>e = .returned v∧Below x.v.heap.size x.v w') :
  Calls P f args x.v fun e w''=>e = .returned v∧∃y:Sub W,w''=y.v :=
 h.mono fun _ w' ⟨he,hb⟩=>⟨he,⟨w',below_tr x.h hb⟩,rfl⟩
theorem calls_sub_same {P:Program} {f:FuncId} {args:Array Value} {W:World} {x:Sub W} {v:Value} (h:Calls P f args x.v fun e w'=>e = .returned v∧x.v=w') :
  Calls P f args x.v fun e w''=>e = .returned v∧∃y:Sub W,w''=y.v :=
 h.mono fun _ w' ⟨he,hb⟩=>⟨he,⟨w',hb ▸ x.h⟩,rfl⟩
end Go.Proofs.YtignkfhdkcgkgaaGreat

namespace Go.Proofs.YtignkfhdkcgkgaaGreat
set_option maxRecDepth 100000
open Go.RowKit

theorem wire_no {d:Dev} {t r k:Int} (h:tileIn d t=false):Hid (¬(tileIn d t=true∧(0≤r∧r≤3)∧(0≤k∧k<d.T)∧0≤stepOf d t r (wlen k))):=by
 show ¬_
 rw [h];simp
set_option maxHeartbeats 1000000 in
theorem pwireNode_1 (d:Dev) (t r k:Int) (w:World) (ht:tileIn d t=false) :
  Calls Tryz.prog 226 #[.agg #[.int .i64 d.W,.int .i64 d.H,.int .i64 d.T,.int .i64 d.R],.int .i64 t,.int .i64 r,.int .i64 k] w fun e w'=>e = .returned (.int .i64 (wireNode d t r k))∧Below w.heap.size w w':=by
 have HO:Hid (wireNode d t r k=if tileIn d t=true∧(0≤r∧r≤3)∧(0≤k∧k<d.T)∧0≤stepOf d t r (wlen k) then t * perT d+7+r * d.T+k else -1):=rfl
 have hbad:=wire_no (r:=r) (k:=k) ht
 have HT:=Lib.hid ht
 have HR:=Lib.hid hbad
 have HK:=HR
 have HS:=HR
 clear ht
 go_enter Tryz.func226,Tryz.ntmps226
 go_wp2_with fail
 have hsub:=sub_ne (w.alloc (.cells #[.int .i64 d.W,.int .i64 d.H,.int .i64 d.T,.int .i64 d.R] 25))
 have hsc:=sub_cell (w.alloc (.cells #[.int .i64 d.W,.int .i64 d.H,.int .i64 d.T,.int .i64 d.R] 25))
 refine wp_region_below (w.alloc (.cells #[.int .i64 d.W,.int .i64 d.H,.int .i64 d.T,.int .i64 d.R] 25)) (by kernel_rfl) (by kernel_rfl) (by first|exact Below.refl _ _|exact hD) ?_
 repeat (go_big_quiet_step ((first
  | (go_at_call 232;with_reducible exact calls_sub (tileOk_is HT.out _))
   | (go_at_call 116;(first|with_reducible exact calls_sub_same (inR_call HR.out _)|with_reducible exact calls_sub_same (inR_call HK.out _)))
   | (go_at_call 197;with_reducible exact calls_sub_same (wireLength_any k _ (by omega) (by omega)))
   | (go_at_call 196;with_reducible exact calls_sub (tileStep_is HS.out HT.out (by omega) (by omega) _))
   | (go_at_call 76;with_reducible exact calls_sub (perTile_any d _ (by omega) (by omega))))))
 refine wpQuiet_nil ?_
 rintro _ ⟨⟨w2,hD⟩,rfl⟩
 (try dsimp only)
 clear hsub hsc
 all_goals
  go_wp2_with fail
  go_ret
  exact ⟨ret_int (by rw [HO.out,if_neg hbad.out]),below_tr (below_new (Below.refl _ _) _) hD⟩
set_option maxHeartbeats 1000000 in
theorem pwireNode_2 (d:Dev) (t r k:Int) (w:World) (ht:tileIn d t=true) (hr:inR r 0 3=false) :
  Calls Tryz.prog 226 #[.agg #[.int .i64 d.W,.int .i64 d.H,.int .i64 d.T,.int .i64 d.R],.int .i64 t,.int .i64 r,.int .i64 k] w fun e w'=>e = .returned (.int .i64 (wireNode d t r k))∧Below w.heap.size w w':=by
 have HO:Hid (wireNode d t r k=if tileIn d t=true∧(0≤r∧r≤3)∧(0≤k∧k<d.T)∧0≤stepOf d t r (wlen k) then t * perT d+7+r * d.T+k else -1):=rfl
 have hbad:Hid (¬(tileIn d t=true∧(0≤r∧r≤3)∧(0≤k∧k<d.T)∧0≤stepOf d t r (wlen k))):=by rintro ⟨_,h,_⟩;have:=inR_false.1 hr;omega
 have hd:=(tileIn_iff.1 ht).1
 have hT:=devOk_bd hd
 have HT:=Lib.hid ht
 have HR:=Lib.hid hr
 have HK:=hbad
 have HS:=hbad
 clear ht hr hd
 go_enter Tryz.func226,Tryz.ntmps226
 go_wp2_with fail
 have hsub:=sub_ne (w.alloc (.cells #[.int .i64 d.W,.int .i64 d.H,.int .i64 d.T,.int .i64 d.R] 25))
 have hsc:=sub_cell (w.alloc (.cells #[.int .i64 d.W,.int .i64 d.H,.int .i64 d.T,.int .i64 d.R] 25))
 refine wp_region_below (w.alloc (.cells #[.int .i64 d.W,.int .i64 d.H,.int .i64 d.T,.int .i64 d.R] 25)) (by kernel_rfl) (by kernel_rfl) (by first|exact Below.refl _ _|exact hD) ?_
 repeat (go_big_quiet_step ((first
  | (go_at_call 232;with_reducible exact calls_sub (tileOk_is HT.out _))
   | (go_at_call 116;(first|with_reducible exact calls_sub_same (inR_call HR.out _)|with_reducible exact calls_sub_same (inR_call HK.out _)))
   | (go_at_call 197;with_reducible exact calls_sub_same (wireLength_any k _ (by omega) (by omega)))
   | (go_at_call 196;with_reducible exact calls_sub (tileStep_is HS.out HT.out (by omega) (by omega) _))
   | (go_at_call 76;with_reducible exact calls_sub (perTile_any d _ (by omega) (by omega))))))
 refine wpQuiet_nil ?_
 rintro _ ⟨⟨w2,hD⟩,rfl⟩
 (try dsimp only)
 clear hsub hsc
 all_goals
  go_wp2_with fail
  go_ret
  exact ⟨ret_int (by rw [HO.out,if_neg hbad.out]),below_tr (below_new (Below.refl _ _) _) hD⟩
set_option maxHeartbeats 1000000 in
theorem pwireNode_3 (d:Dev) (t r k:Int) (w:World) (ht:tileIn d t=true) (hr:inR r 0 3=true) (hk:inR k 0 (d.T - 1)=false) :
  Calls Tryz.prog 226 #[.agg #[.int .i64 d.W,.int .i64 d.H,.int .i64 d.T,.int .i64 d.R],.int .i64 t,.int .i64 r,.int .i64 k] w fun e w'=>e = .returned (.int .i64 (wireNode d t r k))∧Below w.heap.size w w':=by
 have HO:Hid (wireNode d t r k=if tileIn d t=true∧(0≤r∧r≤3)∧(0≤k∧k<d.T)∧0≤stepOf d t r (wlen k) then t * perT d+7+r * d.T+k else -1):=rfl
 have hbad:Hid (¬(tileIn d t=true∧(0≤r∧r≤3)∧(0≤k∧k<d.T)∧0≤stepOf d t r (wlen k))):=by rintro ⟨_,_,h,_⟩;have:=inR_false.1 hk;omega
 have hd:=(tileIn_iff.1 ht).1
 have hT:=devOk_bd hd
 have e3:IntKind.i64.wrap (d.T - 1)=d.T - 1:=IntWalk.i64_in _ (by omega)
 have HT:=Lib.hid ht
 have HR:=Lib.hid hr
 have HK:=Lib.hid hk
 have HS:=hbad
 clear ht hr hd hk
 go_enter Tryz.func226,Tryz.ntmps226
 go_wp2_with fail
 have hsub:=sub_ne (w.alloc (.cells #[.int .i64 d.W,.int .i64 d.H,.int .i64 d.T,.int .i64 d.R] 25))
 have hsc:=sub_cell (w.alloc (.cells #[.int .i64 d.W,.int .i64 d.H,.int .i64 d.T,.int .i64 d.R] 25))
 refine wp_region_below (w.alloc (.cells #[.int .i64 d.W,.int .i64 d.H,.int .i64 d.T,.int .i64 d.R] 25)) (by kernel_rfl) (by kernel_rfl) (by first|exact Below.refl _ _|exact hD) ?_
 repeat (go_big_quiet_step ((first
  | (go_at_call 232;with_reducible exact calls_sub (tileOk_is HT.out _))
   | (go_at_call 116;(first|with_reducible exact calls_sub_same (inR_call HR.out _)|with_reducible exact calls_sub_same (inR_call HK.out _)))
   | (go_at_call 197;with_reducible exact calls_sub_same (wireLength_any k _ (by omega) (by omega)))
   | (go_at_call 196;with_reducible exact calls_sub (tileStep_is HS.out HT.out (by omega) (by omega) _))
   | (go_at_call 76;with_reducible exact calls_sub (perTile_any d _ (by omega) (by omega))))))
 refine wpQuiet_nil ?_
 rintro _ ⟨⟨w2,hD⟩,rfl⟩
 (try dsimp only)
 clear hsub hsc
 all_goals
  go_wp2_with fail
  go_ret
  exact ⟨ret_int (by rw [HO.out,if_neg hbad.out]),below_tr (below_new (Below.refl _ _) _) hD⟩
set_option maxHeartbeats 1000000 in
theorem pwireNode_4 (d:Dev) (t r k:Int) (w:World) (ht:tileIn d t=true) (hr:inR r 0 3=true) (hk:inR k 0 (d.T - 1)=true) (hs:stepOf d t r (wlen k)<0) :
  Calls Tryz.prog 226 #[.agg #[.int .i64 d.W,.int .i64 d.H,.int .i64 d.T,.int .i64 d.R],.int .i64 t,.int .i64 r,.int .i64 k] w fun e w'=>e = .returned (.int .i64 (wireNode d t r k))∧Below w.heap.size w w':=by
 have HO:Hid (wireNode d t r k=if tileIn d t=true∧(0≤r∧r≤3)∧(0≤k∧k<d.T)∧0≤stepOf d t r (wlen k) then t * perT d+7+r * d.T+k else -1):=rfl
 have hbad:Hid (¬(tileIn d t=true∧(0≤r∧r≤3)∧(0≤k∧k<d.T)∧0≤stepOf d t r (wlen k))):=by rintro ⟨_,_,_,h⟩;omega
 have hd:=(tileIn_iff.1 ht).1
 have hT:=devOk_bd hd
 have hki:=inR_iff.1 hk
 have hL:0≤wlen k∧wlen k≤6:=by unfold wlen;omega
 have e3:IntKind.i64.wrap (d.T - 1)=d.T - 1:=IntWalk.i64_in _ (by omega)
 obtain ⟨P,hP⟩:∃P,stepOf d t r (wlen k)=P:=⟨_,rfl⟩
 rw [hP] at hs
 have HT:=Lib.hid ht
 have HR:=Lib.hid hr
 have HK:=Lib.hid hk
 have HS:=Lib.hid hP
 clear ht hr hd hk hP
 go_enter Tryz.func226,Tryz.ntmps226
 go_wp2_with fail
 have hsub:=sub_ne (w.alloc (.cells #[.int .i64 d.W,.int .i64 d.H,.int .i64 d.T,.int .i64 d.R] 25))
 have hsc:=sub_cell (w.alloc (.cells #[.int .i64 d.W,.int .i64 d.H,.int .i64 d.T,.int .i64 d.R] 25))
 refine wp_region_below (w.alloc (.cells #[.int .i64 d.W,.int .i64 d.H,.int .i64 d.T,.int .i64 d.R] 25)) (by kernel_rfl) (by kernel_rfl) (by first|exact Below.refl _ _|exact hD) ?_
 repeat (go_big_quiet_step ((first
  | (go_at_call 232;with_reducible exact calls_sub (tileOk_is HT.out _))
   | (go_at_call 116;(first|with_reducible exact calls_sub_same (inR_call HR.out _)|with_reducible exact calls_sub_same (inR_call HK.out _)))
   | (go_at_call 197;with_reducible exact calls_sub_same (wireLength_any k _ (by omega) (by omega)))
   | (go_at_call 196;with_reducible exact calls_sub (tileStep_is HS.out HT.out (by omega) (by omega) _))
   | (go_at_call 76;with_reducible exact calls_sub (perTile_any d _ (by omega) (by omega))))))
 refine wpQuiet_nil ?_
 rintro _ ⟨⟨w2,hD⟩,rfl⟩
 (try dsimp only)
 clear hsub hsc
 all_goals
  go_wp2_with fail
  go_ret
  exact ⟨ret_int (by rw [HO.out,if_neg hbad.out]),below_tr (below_new (Below.refl _ _) _) hD⟩
set_option maxHeartbeats 1000000 in
theorem pwireNode_5 (d:Dev) (t r k:Int) (w:World) (ht:tileIn d t=true) (hr:inR r 0 3=true) (hk:inR k 0 (d.T - 1)=true) (hs:0≤stepOf d t r (wlen k)) :
  Calls Tryz.prog 226 #[.agg #[.int .i64 d.W,.int .i64 d.H,.int .i64 d.T,.int .i64 d.R],.int .i64 t,.int .i64 r,.int .i64 k] w fun e w'=>e = .returned (.int .i64 (wireNode d t r k))∧Below w.heap.size w w':=by
 have HO:Hid (wireNode d t r k=if tileIn d t=true∧(0≤r∧r≤3)∧(0≤k∧k<d.T)∧0≤stepOf d t r (wlen k) then t * perT d+7+r * d.T+k else -1):=rfl
 have hd:=(tileIn_iff.1 ht).1
 have ht0:=(tileIn_iff.1 ht).2
 have hT:=devOk_bd hd
 have hWH:=dev_WH hd
 have hp:=perT_bd hd
 have hki:=inR_iff.1 hk
 have hri:=inR_iff.1 hr
 have hgood:Hid (tileIn d t=true∧(0≤r∧r≤3)∧(0≤k∧k<d.T)∧0≤stepOf d t r (wlen k)):=⟨ht,hri,by omega,hs⟩
 have hL:0≤wlen k∧wlen k≤6:=by unfold wlen;omega
 have e3:IntKind.i64.wrap (d.T - 1)=d.T - 1:=IntWalk.i64_in _ (by omega)
 have hM:=mul_bd ht0.1 (show t≤35 by omega) (show 0≤perT d by omega) hp.2
 have hM2:=mul_bd hri.1 hri.2 (show 0≤d.T by omega) (show d.T≤4 by omega)
 have HE:=Lib.hid (And.intro (IntWalk.wrap64_in (t * perT d) (by omega)) (And.intro (IntWalk.wrap64_in (t * perT d+7) (by omega)) (And.intro (IntWalk.wrap64_in (r * d.T) (by omega)) (And.intro (IntWalk.wrap64_in (t * perT d+7+r * d.T) (by omega)) (IntWalk.wrap64_in (t * perT d+7+r * d.T+k) (by omega))))))
 obtain ⟨P,hP⟩:∃P,stepOf d t r (wlen k)=P:=⟨_,rfl⟩
 rw [hP] at hs
 have HT:=Lib.hid ht
 have HR:=Lib.hid hr
 have HK:=Lib.hid hk
 have HS:=Lib.hid hP
 have HG:=hgood
 clear ht hr hd hk hP hM hM2
 go_enter Tryz.func226,Tryz.ntmps226
 go_wp2_with fail
 have hsub:=sub_ne (w.alloc (.cells #[.int .i64 d.W,.int .i64 d.H,.int .i64 d.T,.int .i64 d.R] 25))
 have hsc:=sub_cell (w.alloc (.cells #[.int .i64 d.W,.int .i64 d.H,.int .i64 d.T,.int .i64 d.R] 25))
 refine wp_region_below (w.alloc (.cells #[.int .i64 d.W,.int .i64 d.H,.int .i64 d.T,.int .i64 d.R] 25)) (by kernel_rfl) (by kernel_rfl) (by first|exact Below.refl _ _|exact hD) ?_
 repeat (go_big_quiet_step ((first
  | (go_at_call 232;with_reducible exact calls_sub (tileOk_is HT.out _))
   | (go_at_call 116;(first|with_reducible exact calls_sub_same (inR_call HR.out _)|with_reducible exact calls_sub_same (inR_call HK.out _)))
   | (go_at_call 197;with_reducible exact calls_sub_same (wireLength_any k _ (by omega) (by omega)))
   | (go_at_call 196;with_reducible exact calls_sub (tileStep_is HS.out HT.out (by omega) (by omega) _))
   | (go_at_call 76;with_reducible exact calls_sub (perTile_any d _ (by omega) (by omega))))))
 refine wpQuiet_nil ?_
 rintro _ ⟨⟨w2,hD⟩,rfl⟩
 (try dsimp only)
 clear hsub hsc
 all_goals
  go_wp2_with fail
  have hsub:=sub_ne (w.alloc (.cells #[.int .i64 d.W,.int .i64 d.H,.int .i64 d.T,.int .i64 d.R] 25))
 have hsc:=sub_cell (w.alloc (.cells #[.int .i64 d.W,.int .i64 d.H,.int .i64 d.T,.int .i64 d.R] 25))
 refine wp_region_below (w.alloc (.cells #[.int .i64 d.W,.int .i64 d.H,.int .i64 d.T,.int .i64 d.R] 25)) (by kernel_rfl) (by kernel_rfl) (by first|exact Below.refl _ _|exact hD) ?_
 repeat (go_big_quiet_step ((first
  | (go_at_call 232;with_reducible exact calls_sub (tileOk_is HT.out _))
   | (go_at_call 116;(first|with_reducible exact calls_sub_same (inR_call HR.out _)|with_reducible exact calls_sub_same (inR_call HK.out _)))
   | (go_at_call 197;with_reducible exact calls_sub_same (wireLength_any k _ (by omega) (by omega)))
   | (go_at_call 196;with_reducible exact calls_sub (tileStep_is HS.out HT.out (by omega) (by omega) _))
   | (go_at_call 76;with_reducible exact calls_sub (perTile_any d _ (by omega) (by omega))))))
 refine wpQuiet_nil ?_
 rintro _ ⟨⟨w2,hD⟩,rfl⟩
 (try dsimp only)
 clear hsub hsc
 all_goals
  go_wp2_with fail
  go_ret
  exact ⟨ret_int (by rw [HO.out,if_pos HG.out];first|rfl|(rw [HE.out.1,HE.out.2.1,HE.out.2.2.1,HE.out.2.2.2.1,HE.out.2.2.2.2])),below_tr (below_new (Below.refl _ _) _) hD⟩
theorem pwireNode_any (d:Dev) (t r k:Int) (w:World) :
  Calls Tryz.prog 226 #[.agg #[.int .i64 d.W,.int .i64 d.H,.int .i64 d.T,.int .i64 d.R],.int .i64 t,.int .i64 r,.int .i64 k] w fun e w'=>e = .returned (.int .i64 (wireNode d t r k))∧Below w.heap.size w w':=by
 cases ht:tileIn d t with
 | false=>exact pwireNode_1 d t r k w ht
 | true =>
  cases hr:inR r 0 3 with
  | false=>exact pwireNode_2 d t r k w ht hr
  | true =>
   cases hk:inR k 0 (d.T - 1) with
   | false=>exact pwireNode_3 d t r k w ht hr hk
   | true =>
    rcases Int.lt_or_le (stepOf d t r (wlen k)) 0 with h|h
    ·exact pwireNode_4 d t r k w ht hr hk h
    ·exact pwireNode_5 d t r k w ht hr hk h

/-! ### which nodes exist -/
set_option maxHeartbeats 1000000 in
theorem prouteNodeOk_out (d:Dev) (n:Int) (w:World) (hn:nodeIn d n=false) :
  Calls Tryz.prog 141 #[.agg #[.int .i64 d.W,.int .i64 d.H,.int .i64 d.T,.int .i64 d.R],.int .i64 n] w fun e w'=>e = .returned (.bool (nodeOk d n))∧Below w.heap.size w w':=by
 have HR:Hid (nodeOk d n=false):=by show _=false;unfold nodeOk;rw [hn];rfl
 have HN:=Lib.hid hn
 clear hn
 go_enter Tryz.func141,Tryz.ntmps141
 go_wp2_with fail
 refine (deviceOk_any d _).mono ?_
 rintro e w1 ⟨rfl,b1⟩
 have B1:=Lib.hid (below_tr (below_new (Below.refl _ _) _) b1)
 have hb1:=b1.size
 simp only [World.size_alloc] at hb1
 obtain ⟨hcc,hff⟩:=bcell b1
 clear b1
 cases hd:devOk d with
 | false =>
  go_wp2_with fail
  go_ret
  exact ⟨ret_bool HR.out.symm,B1.out⟩
 | true =>
  have hh:=nodesOf_bd hd
  have HD:=Lib.hid hd
  clear hd
  go_wp2_with fail
  refine (routeNodes_any d _ HD.out).mono ?_
  rintro e w2 ⟨rfl,b2⟩
  have B2:=Lib.hid (below_tr B1.out b2)
  clear b2 hcc hff
  have e3:IntKind.i64.wrap (nodesOf d - 1)=nodesOf d - 1:=IntWalk.i64_in _ (by omega)
  have hin:inR n 0 (nodesOf d - 1)=false:=by
   cases h:inR n 0 (nodesOf d - 1) with
   | false=>rfl
   | true =>
    have h1:=HN.out
    have h2:=inR_iff.1 h
    rw [nodeIn,HD.out,decide_eq_true (by omega),decide_eq_true (by omega)] at h1
    cases h1
  have HI:=Lib.hid hin
  clear hin
  go_wp2_with (go_at_call 116;refine (inR_call HI.out _).mono ?_;rintro e w' ⟨rfl,rfl⟩)
  go_ret
  exact ⟨ret_bool HR.out.symm,B2.out⟩

set_option maxHeartbeats 1000000 in
theorem prouteNodeOk_in (d:Dev) (n:Int) (w:World) (hn:nodeIn d n=true) :
  Calls Tryz.prog 141 #[.agg #[.int .i64 d.W,.int .i64 d.H,.int .i64 d.T,.int .i64 d.R],.int .i64 n] w fun e w'=>e = .returned (.bool (nodeOk d n))∧Below w.heap.size w w':=by
 have HR:Hid (nodeOk d n=nodeOkK d (n / perT d) (n % perT d)):=by show _=_;unfold nodeOk;rw [hn];rfl
 have HN:=Lib.hid hn
 obtain ⟨hd,n0,n1,hq0,hq1,hr0,hr1⟩:=node_tk hn
 have hT:=devOk_bd hd
 have hp:=perT_bd hd
 have hWH:=dev_WH hd
 have hh:=nodesOf_bd hd
 have HTI:=Lib.hid (node_tile hn)
 have HD:=Lib.hid hd
 have e3:IntKind.i64.wrap (nodesOf d - 1)=nodesOf d - 1:=IntWalk.i64_in _ (by omega)
 have HI:Hid (inR n 0 (nodesOf d - 1)=true):=by
  show _=true
  unfold nodeIn at hn
  simp only [Bool.and_eq_true,decide_eq_true_eq] at hn
  rw [inR_iff]
  omega
 clear hn hd
 go_enter Tryz.func141,Tryz.ntmps141
 go_wp2_with fail
 refine (deviceOk_any d _).mono ?_
 rintro e w1 ⟨rfl,b1⟩
 rw [HD.out]
 have B1:=Lib.hid b1
 have hb1:=b1.size
 simp only [World.size_alloc] at hb1
 obtain ⟨hcc,hff⟩:=bcell b1
 clear b1
 go_wp2_with fail
 refine (routeNodes_any d _ HD.out).mono ?_
 rintro e w2 ⟨rfl,b2⟩
 have B2:=Lib.hid (below_tr B1.out b2)
 have hb2:=b2.size
 clear b2 hcc hff
 obtain ⟨hcc,hff⟩:=bcell B2.out
 go_wp2_with (go_at_call 116;refine (inR_call HI.out _).mono ?_;rintro e w' ⟨rfl,rfl⟩)
 refine (nodePlace_any d n _ HN.out).mono ?_
 rintro e w3 ⟨rfl,b3⟩
 have B3:=Lib.hid (below_tr B2.out b3)
 have hb3:=b3.size
 clear b3 hcc hff e3
 obtain ⟨hcc,hff⟩:=bcell B3.out
 have hWIRE:=Lib.hid (fun (h7:7≤n % perT d) (w:World)=>wireOf_any d n w HN.out h7)
 generalize hk:n % perT d=k at *
 generalize hq:n / perT d=q at *
 have hK:nodeOkK d q k=if k<5 then decide (k<inPins (kindOf d q)) else if k<7 then decide (k - 5<outPins (kindOf d q)) else decide (0≤stepOf d q ((k - 7) / d.T) (wlen ((k - 7) % d.T))):=rfl
 have HK:=Lib.hid hK
 have HKQ:=Lib.hid (And.intro hk hq)
 have hip:=inPins_bd d q
 have hop:=outPins_bd d q
 have hKT:=(fun w=>tileKind_any d q w HD.out (by omega) (by omega))
 have HKT:=Lib.hid hKT
 generalize kindOf d q=K at *
 clear hK hk hq hKT
 have h3:k<5∨(¬k<5∧k<7)∨(¬k<5∧¬k<7):=by omega
 rcases h3 with h|⟨h,h'⟩|⟨h,h'⟩
 ·go_wp2_with fail
  refine (HKT.out _).mono ?_
  rintro e w4 ⟨rfl,b4⟩
  have B4:=Lib.hid (below_tr B3.out b4)
  clear b4 hcc hff
  generalize hQ:inPins K=Q at *
  have HQ:=Lib.hid hQ
  clear hQ
  go_wp2_with (go_at_call 193;refine (pinPins_any _ _).mono ?_;rw [HQ.out];rintro e w' ⟨rfl,rfl⟩)
  go_ret
  exact ⟨ret_bool (by rw [HR.out,HK.out,if_pos (by omega)]),below_tr (below_new (Below.refl _ _) _) B4.out⟩
 ·go_wp2_with fail
  refine (HKT.out _).mono ?_
  rintro e w4 ⟨rfl,b4⟩
  have B4:=Lib.hid (below_tr B3.out b4)
  clear b4 hcc hff
  generalize hQ:outPins K=Q at *
  have HQ:=Lib.hid hQ
  clear hQ
  go_wp2_with (go_at_call 194;refine (poutPins_any _ _).mono ?_;rw [HQ.out];rintro e w' ⟨rfl,rfl⟩)
  go_ret
  exact ⟨ret_bool (by rw [HR.out,HK.out,if_neg (by omega),if_pos (by omega)]),below_tr (below_new (Below.refl _ _) _) B4.out⟩
 ·have hT0:=Int.ediv_nonneg (show 0≤k - 7 by omega) (show 0≤d.T by omega)
  have hT1:=Int.emod_nonneg (k - 7) (show d.T≠0 by omega)
  have hT2:=Int.emod_lt_of_pos (k - 7) (show 0<d.T by omega)
  go_wp2_with fail
  refine (hWIRE.out (by omega) _).mono ?_
  rintro e w4 ⟨rfl,b4⟩
  have hD:=below_tr B3.out b4
  have hb4:=b4.size
  clear b4 hcc hff
  obtain ⟨hcc,hff⟩:=bcell hD
  generalize (k - 7) / d.T=r at *
  generalize (k - 7) % d.T=m at *
  have hL:0≤wlen m∧wlen m≤6:=by unfold wlen;omega
  have HS:Hid (∃P,stepOf d q r (wlen m)=P):=⟨_,rfl⟩
  obtain ⟨P,hP⟩:=HS.out
  have HP:=Lib.hid hP
  clear hP
  go_wp2_with fail
  clear hcc hff
  have hsub:=sub_ne (w.alloc (.cells #[.int .i64 d.W,.int .i64 d.H,.int .i64 d.T,.int .i64 d.R] 25))
  have hsc:=sub_cell (w.alloc (.cells #[.int .i64 d.W,.int .i64 d.H,.int .i64 d.T,.int .i64 d.R] 25))
  refine wp_region_below (w.alloc (.cells #[.int .i64 d.W,.int .i64 d.H,.int .i64 d.T,.int .i64 d.R] 25)) (by kernel_rfl) (by kernel_rfl) (by first|exact Below.refl _ _|exact hD) ?_
  repeat (go_big_quiet_step ((first
   | (go_at_call 197;with_reducible exact calls_sub_same (wireLength_any m _ (by omega) (by omega)))
   | (go_at_call 196;with_reducible exact calls_sub (tileStep_is HP.out HTI.out (by omega) (by omega) _)))))
  refine wpQuiet_nil ?_
  rintro _ ⟨⟨w2,hD⟩,rfl⟩
  (try dsimp only)
  clear hsub hsc
  go_wp2_with fail
  go_ret
  exact ⟨ret_bool (by rw [HR.out,HK.out,if_neg (by omega),if_neg (by omega),HP.out]),below_tr (below_new (Below.refl _ _) _) hD⟩
theorem prouteNodeOk_any (d:Dev) (n:Int) (w:World) :
  Calls Tryz.prog 141 #[.agg #[.int .i64 d.W,.int .i64 d.H,.int .i64 d.T,.int .i64 d.R],.int .i64 n] w fun e w'=>e = .returned (.bool (nodeOk d n))∧Below w.heap.size w w':=by
 cases hn:nodeIn d n with
 | false=>exact prouteNodeOk_out d n w hn
 | true=>exact prouteNodeOk_in d n w hn
end Go.Proofs.YtignkfhdkcgkgaaGreat
