/- Boards: what they read as, what the call owns of them; the laws' helpers on boards. -/
import Derived.Test.YtofihjoanjkdmaaGreatCopies
import Derived.Test.YtofihjoanjkdmaaGreatOwn
namespace Go.Proofs.YtofihjoanjkdmaaGreat
set_option maxRecDepth 100000
open Go.RowKit
structure Bd where
 dev:Dev
 frames:List (List Int)
 state:List Int
 phase:Int
 reg:Reg
 saved:List (List Int)
structure Sl3 where
 A1:Option Addr
 n1:Nat
 c1:Nat
 A2:Option Addr
 n2:Nat
 c2:Nat
 A3:Option Addr
 n3:Nat
 c3:Nat
structure uT (w:World) (b:Bd) (s:Sl3):Prop where
 frames:wQ w s.A1 s.n1 b.frames
 state:dP w s.A2 s.n2 b.state
 saved:wQ w s.A3 s.n3 b.saved
theorem uT.below {w w':World} {b:Bd} {s:Sl3} (h:uT w b s) (g:Below w.heap.size w w'):uT w' b s:=⟨h.frames.below g,h.state.below g,h.saved.below g⟩
def Ap (l1 h1 l2 h2:Nat):Prop:=h1<=l2∨h2<=l1
structure FK (w:World) (b:Bd) (s:Sl3) (lo hi l1 h1 l2 h2 l3 h3:Nat):Prop where
 frames:lL l1 h1 w s.A1 s.n1 s.c1 b.frames
 state:Own l2 w s.A2 s.n2 s.c2 b.state
 lies:uK s.A2 l2 h2
 saved:lL l3 h3 w s.A3 s.n3 s.c3 b.saved
 a12:Ap l1 h1 l2 h2
 a13:Ap l1 h1 l3 h3
 a23:Ap l2 h2 l3 h3
 in1:lo<=l1/\h1<=hi
 in2:lo<=l2/\h2<=hi
 in3:lo<=l3/\h3<=hi
def lG (lo hi:Nat) (w:World) (b:Bd) (s:Sl3):Prop:=∃l1 h1 l2 h2 l3 h3,FK w b s lo hi l1 h1 l2 h2 l3 h3
theorem uK.own {A:Option Addr} {lo hi base:Nat} {w:World} {n c:Nat} {xs:List Int} (l:uK A lo hi) (_:Own base w A n c xs):uK A lo hi:=l
theorem lG.rd {lo hi:Nat} {w:World} {b:Bd} {s:Sl3} (h:lG lo hi w b s):uT w b s:=by
 obtain ⟨l1,h1,l2,h2,l3,h3,g⟩:=h
 exact ⟨g.frames.rd,g.state.rd,g.saved.rd⟩
theorem lG.below {lo hi:Nat} {w w':World} {b:Bd} {s:Sl3} (h:lG lo hi w b s) (g:Below w.heap.size w w'):lG lo hi w' b s:=by
 obtain ⟨l1,h1,l2,h2,l3,h3,k⟩:=h
 exact ⟨l1,h1,l2,h2,l3,h3,k.frames.below g,k.state.below g,k.lies,k.saved.below g,k.a12,k.a13,k.a23,k.in1,k.in2,k.in3⟩
theorem lG.widen {lo hi j g:Nat} {w:World} {b:Bd} {s:Sl3} (h:lG lo hi w b s) (e1:j<=lo) (e2:hi<=g):lG j g w b s:=by
 obtain ⟨l1,h1,l2,h2,l3,h3,k⟩:=h
 have q:=k.in1
 have z:=k.in2
 have u:=k.in3
 exact ⟨l1,h1,l2,h2,l3,h3,k.frames,k.state,k.lies,k.saved,k.a12,k.a13,k.a23,⟨by omega,by omega⟩,⟨by omega,by omega⟩,⟨by omega,by omega⟩⟩
theorem lG.drewd {lo hi:Nat} {w:World} {b:Bd} {s:Sl3} (h:lG lo hi w b s):lG lo hi w.drew b s:=by
 obtain ⟨l1,h1,l2,h2,l3,h3,k⟩:=h
 exact ⟨l1,h1,l2,h2,l3,h3,k.frames.drewd,k.state.drewd,k.lies,k.saved.drewd,k.a12,k.a13,k.a23,k.in1,k.in2,k.in3⟩
open Go.ChangeShapes Go.WideShapes Go.ChangeAt
section
variable {H:Type} {enc:TypeId × Value→H} {W:World} {b0 base:Nat} {spare:Nat→Bool} {held:Bool}
end
theorem FM {w:World} {B e s g:Nat}:RdC w B (.row e s []) (.slice none 0 g):=by
 rw [mQ]
 exact ⟨none,0,g,rfl,by simp,.inl rfl⟩
section
variable {H:Type} {enc:TypeId × Value→H} {W:World} {b0 base:Nat} {held:Bool}
theorem Dj {a:Addr} {v:Value} (h:W.cell? a=some v):∃b o,a=⟨b,o,none⟩/\b<W.heap.size:=by
 obtain ⟨b,o,s⟩:=a
 have hs:s=none:=World.cell?_spot h
 subst hs
 exact ⟨b,o,rfl,Ee h⟩
theorem FN (b o i j:Nat):((⟨b,o,none⟩:Addr).add i).add j=⟨b,o+(i+j),none⟩:=by rw [Go.Deep.add_add,Addr.add_lit]
end
inductive Shp where
 | int
 | row (e:Nat) (f:List Shp)
mutual
def Cnf:Shp→Cel→Prop
 | .int,c=>∃x,c = .int x
 | .row e f,c=>∃gs:List (List Cel),c = .row e f.length gs.flatten/\gs.length<=maxLen/\∀g∈gs,je f g
def je:List Shp→List Cel→Prop
 | [],cs=>cs=[]
 | s :: ss,cs=>∃c g,cs=c :: g/\Cnf s c/\je ss g
end
theorem iw {c:Cel}:Cnf .int c↔∃x,c = .int x:=by rw [Cnf]
theorem uU {e:Nat} {f:List Shp} {c:Cel}:Cnf (.row e f) c↔∃gs:List (List Cel),c = .row e f.length gs.flatten/\gs.length<=maxLen/\∀g∈gs,je f g:=by rw [Cnf]
theorem gZ {cs:List Cel}:je [] cs↔cs=[]:=by rw [je]
theorem bT {s:Shp} {ss:List Shp} {cs:List Cel}:je (s :: ss) cs↔∃c g,cs=c :: g/\Cnf s c/\je ss g:=by rw [je]
theorem je.len:∀{ss:List Shp} {cs:List Cel},je ss cs→cs.length=ss.length
 | [],cs,h=>by rw [gZ] at h;subst h;rfl
 | s :: ss,cs,h=>by
  rw [bT] at h
  obtain ⟨c,g,rfl,_,h2⟩:=h
  rw [List.length_cons,List.length_cons,je.len h2]
theorem je.append:∀{ss:List Shp} {cs:List Cel} {j:List Shp} {g:List Cel},je ss cs→je j g→je (ss++j) (cs++g)
 | [],cs,j,g,h,u=>by rw [gZ] at h;subst h;exact u
 | s :: ss,cs,j,g,h,u=>by
  rw [bT] at h
  obtain ⟨c,q,rfl,h1,h2⟩:=h
  rw [List.cons_append,bT]
  exact ⟨c,q++g,rfl,h1,h2.append u⟩
theorem yL {w:World} {B:Nat}:∀{cs:List Cel} {vs:List Value} {j:List Cel} {g:List Value},RdL w B cs vs→RdL w B j g→RdL w B (cs++j) (vs++g)
 | [],vs,j,g,h,u=>by rw [kY] at h;subst h;exact u
 | c :: cs,vs,j,g,h,u=>by
  rw [fG] at h
  obtain ⟨v,q,rfl,h1,h2⟩:=h
  rw [List.cons_append,fG]
  exact ⟨v,q++g,rfl,h1,yL h2 u⟩
theorem CF {w:World} {B:Nat}:∀{cs:List Cel} {vs:List Value},RdL w B cs vs→vs.length=cs.length
 | [],vs,h=>by rw [kY] at h;subst h;rfl
 | c :: cs,vs,h=>by
  rw [fG] at h
  obtain ⟨v,g,rfl,_,h2⟩:=h
  rw [List.length_cons,List.length_cons,CF h2]
theorem Ea {w:World} {B:Nat} {G:Nat→List Cel} {V:Nat→List Value} {n:Nat} (h:∀i,i<n→RdL w B (G i) (V i)):RdL w B ((List.range n).flatMap G) ((List.range n).flatMap V):=by
 induction n with
 | zero=>simp [kY]
 | succ n ih =>
  rw [List.range_succ,List.flatMap_append,List.flatMap_append,List.flatMap_singleton,List.flatMap_singleton]
  exact yL (ih fun i hi=>h i (by omega)) (h n (by omega))
theorem lH {α:Type} {V:Nat→List α} {s:Nat}:∀{n:Nat},(∀i,i<n→(V i).length=s)→((List.range n).flatMap V).length=n * s
 | 0,_=>by rw [Nat.zero_mul];rfl
 | n+1,h=>by rw [List.range_succ,List.flatMap_append,List.flatMap_singleton,List.length_append,lH fun i hi=>h i (by omega),h n (by omega),Nat.succ_mul]
theorem rH {α:Type} {V:Nat→List α} {s:Nat}:∀{n:Nat},(∀i,i<n→(V i).length=s)→∀{q r j:Nat},q<n→r<s→q * s+r=j→((List.range n).flatMap V)[j]?=(V q)[r]?
 | 0,_,q,_,_,hq,_,_=>by omega
 | n+1,h,q,r,j,hq,hr,hj=>by
  have hl:((List.range n).flatMap V).length=n * s:=lH fun i hi=>h i (by omega)
  rw [List.range_succ,List.flatMap_append,List.flatMap_singleton]
  rcases Nat.lt_or_ge q n with g|g
  ·have u:=Nat.mul_le_mul_right s (show q+1<=n by omega)
   rw [Nat.succ_mul] at u
   rw [List.getElem?_append_left (by rw [hl];omega)]
   exact rH (fun i hi=>h i (by omega)) g hr hj
  obtain rfl:q=n:=by omega
  rw [List.getElem?_append_right (by rw [hl];omega),hl,show j - q * s=r by omega]
inductive Typ (P:Program):TypeId→List Shp→Prop
 | int {t:TypeId} (h:P.underlying t=some (.int .i64)):Typ P t [.int]
 | slice {t e:TypeId} {e':Nat} {f:List Shp} (h:P.underlying t=some (.slice e)) (hc:P.cellsOf e=f.length) (h0:0<f.length) (he:Typ P e f):Typ P t [.row e' f]
 | struct {t:TypeId} {fs:Array Field} {gs:List (List Shp)} (h:P.underlying t=some (.struct fs)) (hl:gs.length=fs.size) (hc:P.cellsOf t=gs.flatten.length)
   (ho:∀(i:Nat) (F:Field) (g:List Shp),fs[i]?=some F→gs[i]?=some g→F.offset=(gs.take i).flatten.length) (hf:∀(i:Nat) (F:Field) (g:List Shp),fs[i]?=some F→gs[i]?=some g→P.cellsOf F.type=g.length)
   (ht:∀(i:Nat) (F:Field) (g:List Shp),fs[i]?=some F→gs[i]?=some g→Typ P F.type g):Typ P t gs.flatten
theorem xF {w:World} {B:Nat}:∀{gs:List (List Shp)} {cs:List Value},cs.length=gs.flatten.length→(∀(i:Nat) (g:List Shp),gs[i]?=some g→∃ces,je g ces/\RdL w B ces ((cs.drop (gs.take i).flatten.length).take g.length))→∃ces,je gs.flatten ces/\RdL w B ces cs
 | [],cs,hl,_=>⟨[],by rw [List.flatten_nil,gZ],by rw [kY];exact List.eq_nil_of_length_eq_zero hl⟩
 | g :: gs,cs,hl,h=>by
  rw [List.flatten_cons,List.length_append] at hl
  obtain ⟨q,h0,j⟩:=h 0 g rfl
  obtain ⟨c1,h1,z⟩:=xF (gs:=gs) (cs:=cs.drop g.length) (w:=w) (B:=B) (by rw [List.length_drop];omega) fun i u hg=>by
   have:=h (i+1) u hg
   rwa [List.take_succ_cons,List.flatten_cons,List.length_append,←List.drop_drop] at this
  refine ⟨q++c1,by rw [List.flatten_cons];exact h0.append h1,?_⟩
  rw [List.take_zero,List.flatten_nil,List.length_nil,List.drop_zero] at j
  rw [←List.take_append_drop g.length cs]
  exact yL j z
inductive Dk (P:Program):Nat→List Field→List Shp→Prop
 | nil {o:Nat}:Dk P o [] []
 | cons {o:Nat} {F:Field} {Fs:List Field} {g ss:List Shp} (ho:F.offset=o) (hc:P.cellsOf F.type=g.length) (ht:Typ P F.type g) (hs:Dk P (o+g.length) Fs ss):Dk P o (F :: Fs) (g++ss)
theorem Dk.groups {P:Program} {o:Nat} {Fs:List Field} {ss:List Shp} (h:Dk P o Fs ss):∃gs:List (List Shp),ss=gs.flatten/\gs.length=Fs.length/\∀(i:Nat) (F:Field) (g:List Shp),Fs[i]?=some F→gs[i]?=some g→F.offset=o+(gs.take i).flatten.length/\P.cellsOf F.type=g.length/\Typ P F.type g:=by
 induction h with
 | nil=>exact ⟨[],rfl,rfl,fun i F g h=>by simp at h⟩
 | @cons o F Fs g ss ho hc ht hs ih =>
  obtain ⟨gs,rfl,hl,u⟩:=ih
  refine ⟨g :: gs,rfl,by rw [List.length_cons,List.length_cons,hl],fun i F' q h1 h2=>?_⟩
  rcases i with _|i
  ·rw [List.getElem?_cons_zero,Option.some.injEq] at h1 h2
   subst h1 h2
   exact ⟨ho,hc,ht⟩
  rw [List.getElem?_cons_succ] at h1 h2
  obtain ⟨B,j,z⟩:=u i F' q h1 h2
  exact ⟨by rw [B,List.take_succ_cons,List.flatten_cons,List.length_append];omega,j,z⟩
theorem Typ.of_flds {P:Program} {t:TypeId} {fs:Array Field} {q:List Shp} (h:P.underlying t=some (.struct fs)) (hc:P.cellsOf t=q.length) (hf:Dk P 0 fs.toList q):Typ P t q:=by
 obtain ⟨gs,rfl,hl,u⟩:=hf.groups
 have j:∀(i:Nat) (F:Field) (g:List Shp),fs[i]?=some F→gs[i]?=some g→F.offset=0+(gs.take i).flatten.length/\P.cellsOf F.type=g.length/\Typ P F.type g:=fun i F g h1 h2=>u i F g (by rw [Array.getElem?_toList];exact h1) h2
 exact .struct h (by rw [hl,Array.length_toList]) hc (fun i F g h1 h2=>by rw [(j i F g h1 h2).1,Nat.zero_add]) (fun i F g h1 h2=>(j i F g h1 h2).2.1) fun i F g h1 h2=>(j i F g h1 h2).2.2
theorem oQ {α:Type} {cells:α→List Cel} {e:Nat} {f:List Shp} {c:Cel} (q:∀g,je f g→∃x,g=cells x) (h:Cnf (.row e f) c):∃xs:List α,c = .row e f.length (xs.flatMap cells)/\xs.length<=maxLen:=by
 obtain ⟨gs,rfl,B,hg⟩:=uU.1 h
 have:∀gs:List (List Cel),(∀g∈gs,je f g)→∃xs:List α,gs.flatten=xs.flatMap cells/\xs.length=gs.length:=by
  intro gs
  induction gs with
  | nil=>exact fun _=>⟨[],rfl,rfl⟩
  | cons g gs ih =>
   intro hg
   obtain ⟨x,z⟩:=q g (hg g (by simp))
   obtain ⟨xs,h1,h2⟩:=ih fun j u=>hg j (by simp [u])
   exact ⟨x :: xs,by rw [List.flatten_cons,List.flatMap_cons,h1,z],by rw [List.length_cons,List.length_cons,h2]⟩
 obtain ⟨xs,h1,h2⟩:=this gs hg
 exact ⟨xs,by rw [h1],by omega⟩
theorem pQ {c:Cel} (h:Cnf (.row 3 [.int]) c):∃xs:List Int,c=aH xs/\xs.length<=maxLen:=by
 obtain ⟨xs,rfl,j⟩:=oQ (cells:=fun x:Int=>[Cel.int x]) (fun g hg=>by
  obtain ⟨c,cs,rfl,h1,h2⟩:=bT.1 hg
  obtain ⟨x,rfl⟩:=iw.1 h1
  rw [gZ.1 h2]
  exact ⟨x,rfl⟩) h
 exact ⟨xs,by unfold aH;rw [List.map_eq_flatMap];rfl,j⟩
theorem kH:Typ Tryz.prog 3 [.int] := .int Tryz.underlying3
theorem pR:Typ Tryz.prog 26 [.row 3 [.int]] := .slice Tryz.underlying26 (by kernel_rfl) (by decide) kH
section
variable {H:Type} {enc:TypeId × Value→H} {W:World} {base:Nat} {held:Bool}
theorem Eb {P:Program} {t:TypeId} {sh:List Shp} (hT:Typ P t sh):∀{q:Nat} {cs:List Value} {y:DataW H × List MemPlace},DataW.trod enc P W base (fun _=>true) held q t cs=some y→∃ces,je sh ces/\RdL W W.heap.size ces cs:=by
 induction hT with
 | int h =>
  intro q cs y R
  obtain ⟨n,rfl,_,_⟩:=DataW.trod_int h R
  refine ⟨[.int n],?_,?_⟩
  ·rw [bT];exact ⟨_,[],rfl,iw.2 ⟨n,rfl⟩,gZ.2 rfl⟩
  ·rw [fG];exact ⟨_,[],rfl,jV.2 rfl,kY.2 rfl⟩
 | @slice t e e' f h hc h0 he ih =>
  intro q cs y R
  rcases Go.Deep.open_slice h R with ⟨rfl,_⟩|⟨a,len,Z,m,n,D,Pl,rfl,_,hl,hm,ah,_,hx⟩
  ·refine ⟨[.row e' f.length []],?_,?_⟩
   ·rw [bT];exact ⟨_,[],rfl,uU.2 ⟨[],rfl,by simp,by simp⟩,gZ.2 rfl⟩
   rw [fG];exact ⟨_,[],rfl,FM,kY.2 rfl⟩
  ·simp only [if_true] at ah
   rw [hc] at hx
   have Q:∀i,i<len→∃z:List Cel × List Value,je f z.1/\RdL W W.heap.size z.1 z.2/\∀j,j<f.length→W.cell? ((a.add (i * f.length)).add j)=z.2[j]?:=fun i hi=>by
    obtain ⟨ad,h1,h2⟩:=hx i (by omega)
    obtain ⟨g,k1,k2⟩:=ih h2
    exact ⟨(g,ad),k1,k2,(World.cells?_some h1).2.2⟩
   have:Inhabited (List Cel × List Value):=⟨([],[])⟩
   obtain ⟨z,G⟩:=Go.Deep.choose_lt Q
   have af:((List.range len).map fun i=>(z i).1).flatten=(List.range len).flatMap fun i=>(z i).1:=by rw [List.flatMap_def]
   have K:((List.range len).flatMap fun i=>(z i).1).length=len * f.length:=lH fun i hi=>(G i hi).1.len
   refine ⟨[.row e' f.length ((List.range len).map fun i=>(z i).1).flatten],?_,?_⟩
   ·rw [bT]
    exact ⟨_,[],rfl,uU.2 ⟨_,rfl,by simp;omega,fun g hg=>by
     obtain ⟨i,hi,rfl⟩:=List.mem_map.1 hg
     exact (G i (List.mem_range.1 hi)).1⟩,gZ.2 rfl⟩
   ·rw [fG]
    refine ⟨_,[],rfl,?_,kY.2 rfl⟩
    rw [mQ,af]
    refine ⟨_,len,Z,rfl,K,?_⟩
    rcases Nat.eq_zero_or_pos len with B|B
    ·subst B;exact .inl rfl
    ·right
     have I:∀i,i<len→(z i).2.length=f.length:=fun i hi=>by rw [CF (G i hi).2.1,(G i hi).1.len]
     have g0:=(G 0 B).2.2 0 h0
     rw [Nat.zero_mul,List.getElem?_eq_getElem (by rw [I 0 B];exact h0),Go.Deep.add_add] at g0
     obtain ⟨b,o,ha,hb⟩:=Dj g0
     have ae:a=⟨b,o,none⟩:=by
      obtain ⟨b',o',s'⟩:=a
      simp only [Addr.add,Nat.add_zero] at ha
      exact ha
     subst ae
     simp only [FN] at G
     refine ⟨b,o,(List.range len).flatMap fun i=>(z i).2,rfl,hb,fun j u Y=>?_,Ea fun i hi=>(G i hi).2.1⟩
     have aj:((List.range len).flatMap fun i=>(z i).2).length=len * f.length:=lH I
     have hj:j<len * f.length:=by
      rcases Nat.lt_or_ge j (len * f.length) with h|h
      ·exact h
      rw [List.getElem?_eq_none (by rw [aj];exact h)] at Y;cases Y
     have hq:j / f.length<len:=Nat.div_lt_of_lt_mul (by rw [Nat.mul_comm];exact hj)
     have hr:j % f.length<f.length:=Nat.mod_lt _ h0
     have hg:=(G (j / f.length) hq).2.2 (j % f.length) hr
     have J:j / f.length * f.length+j % f.length=j:=by rw [Nat.mul_comm];exact Nat.div_add_mod j f.length
     rw [J] at hg
     rw [hg,←Y]
     exact (rH (fun i hi=>I i hi) hq hr J).symm
 | @struct t fs gs h hl hc ho hf ht ih =>
  intro q cs y R
  obtain ⟨xs,n,_,_,ai,V,ag⟩:=DataW.trod_struct h R
  refine xF (by rw [ai,hc]) fun i g hg=>?_
  have hi:i<fs.size:=by rw [←hl];exact (List.getElem?_eq_some_iff.1 hg).1
  have U:fs[i]?=some fs[i]:=Array.getElem?_eq_getElem hi
  have h1:=ag i _ U
  rw [ho i _ g U hg,hf i _ g U hg,List.getElem?_eq_getElem (by rw [V];exact hi)] at h1
  exact ih i _ g U hg h1
theorem Ec {P:Program} {b0:Nat} {t:TypeId} {fs:Array Field} {j:List Shp} {v:Value} {d:DataW H} {p:List MemPlace} (ht:P.underlying t=some (.struct fs)) (q:Typ P t j) (z:Value.okWide P W .any b0 t v) (h:DataW.Trod enc P W base (fun _=>true) held t v d p) :
  ∃(cs:List Value) (ces:List Cel),v = .agg cs.toArray/\je j ces/\RdL W W.heap.size ces cs:=by
 obtain ⟨cs,rfl,u⟩:=okWide_struct ht z
 obtain ⟨g,hf⟩:=h
 obtain ⟨ces,h1,h2⟩:=Eb q hf
 exact ⟨cs.toList,ces,by simp,h1,by simpa [Value.cells] using h2⟩
end
mutual
def szC:Cel→Nat
 | .int _=>0
 | .row _ s cs=>cs.length / s+af cs
def af:List Cel→Nat
 | []=>0
 | c :: cs=>szC c+af cs
end
mutual
def BdC:Cel→Prop
 | .int _=>True
 | .row _ s cs=>cs.length / s<=maxLen/\BdL cs
def BdL:List Cel→Prop
 | []=>True
 | c :: cs=>BdC c/\BdL cs
end
theorem fM (x:Int):szC (.int x)=0:=by rw [szC]
theorem CG (e s:Nat) (cs:List Cel):szC (.row e s cs)=cs.length / s+af cs:=by rw [szC]
theorem bP:af []=0:=by rw [af]
theorem au (c:Cel) (cs:List Cel):af (c :: cs)=szC c+af cs:=by rw [af]
theorem oU {e s:Nat} {cs:List Cel}:BdC (.row e s cs)↔cs.length / s<=maxLen/\BdL cs:=by rw [BdC]
theorem FO {x:Int}:BdC (.int x):=by rw [BdC];trivial
theorem su:BdL []:=by rw [BdL];trivial
theorem jf {c:Cel} {cs:List Cel}:BdL (c :: cs)↔BdC c/\BdL cs:=by rw [BdL]
theorem iD:∀(cs ds:List Cel),af (cs++ds)=af cs+af ds
 | [],ds=>by rw [bP,Nat.zero_add];rfl
 | c :: cs,ds=>by rw [List.cons_append,au,au,iD cs ds,Nat.add_assoc]
theorem rZ:∀{cs ds:List Cel},BdL (cs++ds)↔BdL cs/\BdL ds
 | [],ds=>by rw [List.nil_append];exact ⟨fun h=>⟨su,h⟩,fun h=>h.2⟩
 | c :: cs,ds=>by rw [List.cons_append,jf,jf,rZ,and_assoc]
theorem Dl (xs:List Int):af (xs.map .int)=0:=by
 induction xs with
 | nil=>rw [List.map_nil,bP]
 | cons x xs ih=>rw [List.map_cons,au,fM,ih]
theorem nZ (xs:List Int):szC (aH xs)=xs.length:=by unfold aH;rw [CG,Dl,List.length_map,Nat.div_one,Nat.add_zero]
theorem eZ {α:Type} {cells:α→List Cel} {s:Nat} (hf:∀x,(cells x).length=s):∀xs:List α,(xs.flatMap cells).length=xs.length * s
 | []=>by rw [List.flatMap_nil,List.length_nil,List.length_nil,Nat.zero_mul]
 | x :: xs=>by rw [List.flatMap_cons,List.length_append,hf,eZ hf xs,List.length_cons,Nat.succ_mul,Nat.add_comm]
theorem cK {α:Type} {cells:α→List Cel} {s e:Nat} (hf:∀x,(cells x).length=s) (hs:0<s) (xs:List α):szC (.row e s (xs.flatMap cells))=xs.length+af (xs.flatMap cells):=by
 rw [CG,eZ hf,Nat.mul_div_cancel _ hs]
theorem ng {α:Type} {cells:α→List Cel} {s e:Nat} (hf:∀x,(cells x).length=s) (hs:0<s) {xs:List α}:BdC (.row e s (xs.flatMap cells))↔xs.length<=maxLen/\BdL (xs.flatMap cells):=by
 rw [oU,eZ hf,Nat.mul_div_cancel _ hs]
theorem pU {α:Type} {cells:α→List Cel}:∀{xs:List α},BdL (xs.flatMap cells)↔∀x∈xs,BdL (cells x)
 | []=>by rw [List.flatMap_nil];exact ⟨fun _ x j=>by simp at j,fun _=>su⟩
 | x :: xs=>by
  rw [List.flatMap_cons,rZ,pU]
  constructor
  ·rintro ⟨h1,h2⟩ y g
   rcases List.mem_cons.1 g with rfl|g
   ·exact h1
   exact h2 y g
  exact fun h=>⟨h x (by simp),fun y g=>h y (by simp [g])⟩
theorem nE {α:Type} {cells:α→List Cel} {xs:List α} {k:Nat} {z:α} (h:k<xs.length):af ((xs.take (k+1)).flatMap cells)=af ((xs.take k).flatMap cells)+af (cells (xs[k]?.getD z)):=by
 rw [List.take_add_one,List.getElem?_eq_getElem h,List.flatMap_append,iD,Option.getD_some]
 simp
theorem jm {α:Type} {cells:α→List Cel} (xs:List α) (k:Nat):af ((xs.take k).flatMap cells)<=af (xs.flatMap cells):=by
 have h:xs.flatMap cells=(xs.take k).flatMap cells++(xs.drop k).flatMap cells:=by rw [←List.flatMap_append,List.take_append_drop]
 rw [h,iD]
 omega
theorem jD {α:Type} {cells:α→List Cel} {xs:List α} {k:Nat} {z:α} (h:k<xs.length):af (cells (xs[k]?.getD z))<=af (xs.flatMap cells):=by
 have h1:=nE (cells:=cells) (z:=z) h
 have h2:=jm (cells:=cells) xs (k+1)
 omega
mutual
theorem Cnf.bd:∀{z:Shp} {c:Cel},Cnf z c→BdC c
 | .int,c,h=>by
  obtain ⟨x,rfl⟩:=iw.1 h
  exact FO
 | .row e f,c,h=>by
  obtain ⟨gs,rfl,B,hg⟩:=uU.1 h
  have j:∀gs:List (List Cel),(∀g∈gs,je f g)→gs.flatten.length=gs.length * f.length/\BdL gs.flatten:=by
   intro gs
   induction gs with
   | nil=>exact fun _=>⟨by simp,su⟩
   | cons g gs ih =>
    intro hg
    obtain ⟨h1,h2⟩:=ih fun q u=>hg q (by simp [u])
    have h3:=hg g (by simp)
    exact ⟨by rw [List.flatten_cons,List.length_append,h1,h3.len,List.length_cons,Nat.succ_mul,Nat.add_comm],by rw [List.flatten_cons,rZ];exact ⟨je.bd h3,h2⟩⟩
  obtain ⟨h1,h2⟩:=j gs hg
  rw [oU,h1]
  refine ⟨?_,h2⟩
  rcases Nat.eq_zero_or_pos f.length with h0|h0
  ·rw [h0,Nat.div_zero];exact Nat.zero_le _
  rw [Nat.mul_div_cancel _ h0];exact B
theorem je.bd:∀{ss:List Shp} {cs:List Cel},je ss cs→BdL cs
 | [],cs,h=>by
  obtain rfl:=gZ.1 h
  exact su
 | s :: ss,cs,h=>by
  obtain ⟨c,g,rfl,h1,h2⟩:=bT.1 h
  exact jf.2 ⟨Cnf.bd h1,je.bd h2⟩
end
end Go.Proofs.YtofihjoanjkdmaaGreat
