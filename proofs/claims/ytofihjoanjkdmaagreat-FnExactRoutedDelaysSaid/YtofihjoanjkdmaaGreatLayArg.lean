/- Boards: what they read as, what the call owns of them; the laws' helpers on boards. -/
import Derived.Test.YtofihjoanjkdmaaGreatCopies
import Derived.Test.YtofihjoanjkdmaaGreatLayRd
namespace Go.Proofs.YtofihjoanjkdmaaGreat
set_option maxRecDepth 100000
open Go.RowKit
structure Bd where
 dev:Dev
 frames:List (List Int)
 state:List Int
 phase:Int
 reg:Reg
 saved:List (List Int)
structure Sl3 where
 A1:Option Addr
 n1:Nat
 c1:Nat
 A2:Option Addr
 n2:Nat
 c2:Nat
 A3:Option Addr
 n3:Nat
 c3:Nat
structure uR (w:World) (b:Bd) (s:Sl3):Prop where
 frames:wT w s.A1 s.n1 b.frames
 state:dE w s.A2 s.n2 b.state
 saved:wT w s.A3 s.n3 b.saved
theorem uR.below {w w':World} {b:Bd} {s:Sl3} (h:uR w b s) (g:Below w.heap.size w w'):uR w' b s:=⟨h.frames.below g,h.state.below g,h.saved.below g⟩
def Ap (l1 h1 l2 h2:Nat):Prop:=h1<=l2∨h2<=l1
structure EW (w:World) (b:Bd) (s:Sl3) (lo hi l1 h1 l2 h2 l3 h3:Nat):Prop where
 frames:lG l1 h1 w s.A1 s.n1 s.c1 b.frames
 state:Own l2 w s.A2 s.n2 s.c2 b.state
 lies:uN s.A2 l2 h2
 saved:lG l3 h3 w s.A3 s.n3 s.c3 b.saved
 a12:Ap l1 h1 l2 h2
 a13:Ap l1 h1 l3 h3
 a23:Ap l2 h2 l3 h3
 in1:lo<=l1/\h1<=hi
 in2:lo<=l2/\h2<=hi
 in3:lo<=l3/\h3<=hi
def kZ (lo hi:Nat) (w:World) (b:Bd) (s:Sl3):Prop:=∃l1 h1 l2 h2 l3 h3,EW w b s lo hi l1 h1 l2 h2 l3 h3
theorem uN.own {A:Option Addr} {lo hi base:Nat} {w:World} {n c:Nat} {xs:List Int} (l:uN A lo hi) (_:Own base w A n c xs):uN A lo hi:=l
theorem kZ.rd {lo hi:Nat} {w:World} {b:Bd} {s:Sl3} (h:kZ lo hi w b s):uR w b s:=by
 obtain ⟨l1,h1,l2,h2,l3,h3,g⟩:=h
 exact ⟨g.frames.rd,g.state.rd,g.saved.rd⟩
theorem kZ.below {lo hi:Nat} {w w':World} {b:Bd} {s:Sl3} (h:kZ lo hi w b s) (g:Below w.heap.size w w'):kZ lo hi w' b s:=by
 obtain ⟨l1,h1,l2,h2,l3,h3,k⟩:=h
 exact ⟨l1,h1,l2,h2,l3,h3,k.frames.below g,k.state.below g,k.lies,k.saved.below g,k.a12,k.a13,k.a23,k.in1,k.in2,k.in3⟩
theorem kZ.widen {lo hi j g:Nat} {w:World} {b:Bd} {s:Sl3} (h:kZ lo hi w b s) (e1:j<=lo) (e2:hi<=g):kZ j g w b s:=by
 obtain ⟨l1,h1,l2,h2,l3,h3,k⟩:=h
 have u:=k.in1
 have q:=k.in2
 have z:=k.in3
 exact ⟨l1,h1,l2,h2,l3,h3,k.frames,k.state,k.lies,k.saved,k.a12,k.a13,k.a23,⟨by omega,by omega⟩,⟨by omega,by omega⟩,⟨by omega,by omega⟩⟩
theorem kZ.drewd {lo hi:Nat} {w:World} {b:Bd} {s:Sl3} (h:kZ lo hi w b s):kZ lo hi w.drew b s:=by
 obtain ⟨l1,h1,l2,h2,l3,h3,k⟩:=h
 exact ⟨l1,h1,l2,h2,l3,h3,k.frames.drewd,k.state.drewd,k.lies,k.saved.drewd,k.a12,k.a13,k.a23,k.in1,k.in2,k.in3⟩
open Go.ChangeShapes Go.WideShapes Go.ChangeAt
section
variable {H:Type} {enc:TypeId × Value→H} {W:World} {b0 base:Nat} {spare:Nat→Bool} {held:Bool}
end
theorem EX {w:World} {B e s g:Nat}:RdC w B (.row e s []) (.slice none 0 g):=by
 rw [mI]
 exact ⟨none,0,g,rfl,by simp,.inl rfl⟩
section
variable {H:Type} {enc:TypeId × Value→H} {W:World} {b0 base:Nat} {held:Bool}
theorem CO {a:Addr} {v:Value} (h:W.cell? a=some v):∃b o,a=⟨b,o,none⟩/\b<W.heap.size:=by
 obtain ⟨b,o,s⟩:=a
 have hs:s=none:=World.cell?_spot h
 subst hs
 exact ⟨b,o,rfl,EU h⟩
theorem EY (b o i j:Nat):((⟨b,o,none⟩:Addr).add i).add j=⟨b,o+(i+j),none⟩:=by rw [Go.Deep.add_add,Addr.add_lit]
end
inductive Shp where
 | int
 | row (e:Nat) (f:List Shp)
mutual
def Cnf:Shp→Cel→Prop
 | .int,c=>∃x,c = .int x
 | .row e f,c=>∃gs:List (List Cel),c = .row e f.length gs.flatten/\gs.length<=maxLen/\∀g∈gs,jZ f g
def jZ:List Shp→List Cel→Prop
 | [],cs=>cs=[]
 | s :: ss,cs=>∃c g,cs=c :: g/\Cnf s c/\jZ ss g
end
theorem ik {c:Cel}:Cnf .int c↔∃x,c = .int x:=by rw [Cnf]
theorem uS {e:Nat} {f:List Shp} {c:Cel}:Cnf (.row e f) c↔∃gs:List (List Cel),c = .row e f.length gs.flatten/\gs.length<=maxLen/\∀g∈gs,jZ f g:=by rw [Cnf]
theorem gP {cs:List Cel}:jZ [] cs↔cs=[]:=by rw [jZ]
theorem bP {s:Shp} {ss:List Shp} {cs:List Cel}:jZ (s :: ss) cs↔∃c g,cs=c :: g/\Cnf s c/\jZ ss g:=by rw [jZ]
theorem jZ.len:∀{ss:List Shp} {cs:List Cel},jZ ss cs→cs.length=ss.length
 | [],cs,h=>by rw [gP] at h;subst h;rfl
 | s :: ss,cs,h=>by
  rw [bP] at h
  obtain ⟨c,g,rfl,_,h2⟩:=h
  rw [List.length_cons,List.length_cons,jZ.len h2]
theorem jZ.append:∀{ss:List Shp} {cs:List Cel} {j:List Shp} {g:List Cel},jZ ss cs→jZ j g→jZ (ss++j) (cs++g)
 | [],cs,j,g,h,u=>by rw [gP] at h;subst h;exact u
 | s :: ss,cs,j,g,h,u=>by
  rw [bP] at h
  obtain ⟨c,q,rfl,h1,h2⟩:=h
  rw [List.cons_append,bP]
  exact ⟨c,q++g,rfl,h1,h2.append u⟩
theorem xR {w:World} {B:Nat}:∀{cs:List Cel} {vs:List Value} {j:List Cel} {g:List Value},RdL w B cs vs→RdL w B j g→RdL w B (cs++j) (vs++g)
 | [],vs,j,g,h,u=>by rw [kV] at h;subst h;exact u
 | c :: cs,vs,j,g,h,u=>by
  rw [fG] at h
  obtain ⟨v,q,rfl,h1,h2⟩:=h
  rw [List.cons_append,fG]
  exact ⟨v,q++g,rfl,h1,xR h2 u⟩
theorem BQ {w:World} {B:Nat}:∀{cs:List Cel} {vs:List Value},RdL w B cs vs→vs.length=cs.length
 | [],vs,h=>by rw [kV] at h;subst h;rfl
 | c :: cs,vs,h=>by
  rw [fG] at h
  obtain ⟨v,g,rfl,_,h2⟩:=h
  rw [List.length_cons,List.length_cons,BQ h2]
theorem Df {w:World} {B:Nat} {G:Nat→List Cel} {V:Nat→List Value} {n:Nat} (h:∀i,i<n→RdL w B (G i) (V i)):RdL w B ((List.range n).flatMap G) ((List.range n).flatMap V):=by
 induction n with
 | zero=>simp [kV]
 | succ n ih =>
  rw [List.range_succ,List.flatMap_append,List.flatMap_append,List.flatMap_singleton,List.flatMap_singleton]
  exact xR (ih fun i hi=>h i (by omega)) (h n (by omega))
theorem kg {α:Type} {V:Nat→List α} {s:Nat}:∀{n:Nat},(∀i,i<n→(V i).length=s)→((List.range n).flatMap V).length=n * s
 | 0,_=>by rw [Nat.zero_mul];rfl
 | n+1,h=>by rw [List.range_succ,List.flatMap_append,List.flatMap_singleton,List.length_append,kg fun i hi=>h i (by omega),h n (by omega),Nat.succ_mul]
theorem qj {α:Type} {V:Nat→List α} {s:Nat}:∀{n:Nat},(∀i,i<n→(V i).length=s)→∀{q r j:Nat},q<n→r<s→q * s+r=j→((List.range n).flatMap V)[j]?=(V q)[r]?
 | 0,_,q,_,_,hq,_,_=>by omega
 | n+1,h,q,r,j,hq,hr,hj=>by
  have hl:((List.range n).flatMap V).length=n * s:=kg fun i hi=>h i (by omega)
  rw [List.range_succ,List.flatMap_append,List.flatMap_singleton]
  rcases Nat.lt_or_ge q n with g|g
  ·have u:=Nat.mul_le_mul_right s (show q+1<=n by omega)
   rw [Nat.succ_mul] at u
   rw [List.getElem?_append_left (by rw [hl];omega)]
   exact qj (fun i hi=>h i (by omega)) g hr hj
  obtain rfl:q=n:=by omega
  rw [List.getElem?_append_right (by rw [hl];omega),hl,show j - q * s=r by omega]
inductive Typ (P:Program):TypeId→List Shp→Prop
 | int {t:TypeId} (h:P.underlying t=some (.int .i64)):Typ P t [.int]
 | slice {t e:TypeId} {e':Nat} {f:List Shp} (h:P.underlying t=some (.slice e)) (hc:P.cellsOf e=f.length) (h0:0<f.length) (he:Typ P e f):Typ P t [.row e' f]
 | struct {t:TypeId} {fs:Array Field} {gs:List (List Shp)} (h:P.underlying t=some (.struct fs)) (hl:gs.length=fs.size) (hc:P.cellsOf t=gs.flatten.length)
   (ho:∀(i:Nat) (F:Field) (g:List Shp),fs[i]?=some F→gs[i]?=some g→F.offset=(gs.take i).flatten.length) (hf:∀(i:Nat) (F:Field) (g:List Shp),fs[i]?=some F→gs[i]?=some g→P.cellsOf F.type=g.length)
   (ht:∀(i:Nat) (F:Field) (g:List Shp),fs[i]?=some F→gs[i]?=some g→Typ P F.type g):Typ P t gs.flatten
theorem wY {w:World} {B:Nat}:∀{gs:List (List Shp)} {cs:List Value},cs.length=gs.flatten.length→(∀(i:Nat) (g:List Shp),gs[i]?=some g→∃ces,jZ g ces/\RdL w B ces ((cs.drop (gs.take i).flatten.length).take g.length))→∃ces,jZ gs.flatten ces/\RdL w B ces cs
 | [],cs,hl,_=>⟨[],by rw [List.flatten_nil,gP],by rw [kV];exact List.eq_nil_of_length_eq_zero hl⟩
 | g :: gs,cs,hl,h=>by
  rw [List.flatten_cons,List.length_append] at hl
  obtain ⟨z,h0,j⟩:=h 0 g rfl
  obtain ⟨c1,h1,q⟩:=wY (gs:=gs) (cs:=cs.drop g.length) (w:=w) (B:=B) (by rw [List.length_drop];omega) fun i u hg=>by
   have:=h (i+1) u hg
   rwa [List.take_succ_cons,List.flatten_cons,List.length_append,←List.drop_drop] at this
  refine ⟨z++c1,by rw [List.flatten_cons];exact h0.append h1,?_⟩
  rw [List.take_zero,List.flatten_nil,List.length_nil,List.drop_zero] at j
  rw [←List.take_append_drop g.length cs]
  exact xR j q
inductive CP (P:Program):Nat→List Field→List Shp→Prop
 | nil {o:Nat}:CP P o [] []
 | cons {o:Nat} {F:Field} {Fs:List Field} {g ss:List Shp} (ho:F.offset=o) (hc:P.cellsOf F.type=g.length) (ht:Typ P F.type g) (hs:CP P (o+g.length) Fs ss):CP P o (F :: Fs) (g++ss)
theorem CP.groups {P:Program} {o:Nat} {Fs:List Field} {ss:List Shp} (h:CP P o Fs ss):∃gs:List (List Shp),ss=gs.flatten/\gs.length=Fs.length/\∀(i:Nat) (F:Field) (g:List Shp),Fs[i]?=some F→gs[i]?=some g→F.offset=o+(gs.take i).flatten.length/\P.cellsOf F.type=g.length/\Typ P F.type g:=by
 induction h with
 | nil=>exact ⟨[],rfl,rfl,fun i F g h=>by simp at h⟩
 | @cons o F Fs g ss ho hc ht hs ih =>
  obtain ⟨gs,rfl,hl,j⟩:=ih
  refine ⟨g :: gs,rfl,by rw [List.length_cons,List.length_cons,hl],fun i F' B h1 h2=>?_⟩
  rcases i with _|i
  ·rw [List.getElem?_cons_zero,Option.some.injEq] at h1 h2
   subst h1 h2
   exact ⟨ho,hc,ht⟩
  rw [List.getElem?_cons_succ] at h1 h2
  obtain ⟨q,z,u⟩:=j i F' B h1 h2
  exact ⟨by rw [q,List.take_succ_cons,List.flatten_cons,List.length_append];omega,z,u⟩
theorem Typ.of_flds {P:Program} {t:TypeId} {fs:Array Field} {q:List Shp} (h:P.underlying t=some (.struct fs)) (hc:P.cellsOf t=q.length) (hf:CP P 0 fs.toList q):Typ P t q:=by
 obtain ⟨gs,rfl,hl,u⟩:=hf.groups
 have j:∀(i:Nat) (F:Field) (g:List Shp),fs[i]?=some F→gs[i]?=some g→F.offset=0+(gs.take i).flatten.length/\P.cellsOf F.type=g.length/\Typ P F.type g:=fun i F g h1 h2=>u i F g (by rw [Array.getElem?_toList];exact h1) h2
 exact .struct h (by rw [hl,Array.length_toList]) hc (fun i F g h1 h2=>by rw [(j i F g h1 h2).1,Nat.zero_add]) (fun i F g h1 h2=>(j i F g h1 h2).2.1) fun i F g h1 h2=>(j i F g h1 h2).2.2
theorem oD {α:Type} {cells:α→List Cel} {e:Nat} {f:List Shp} {c:Cel} (q:∀g,jZ f g→∃x,g=cells x) (h:Cnf (.row e f) c):∃xs:List α,c = .row e f.length (xs.flatMap cells)/\xs.length<=maxLen:=by
 obtain ⟨gs,rfl,B,hg⟩:=uS.1 h
 have:∀gs:List (List Cel),(∀g∈gs,jZ f g)→∃xs:List α,gs.flatten=xs.flatMap cells/\xs.length=gs.length:=by
  intro gs
  induction gs with
  | nil=>exact fun _=>⟨[],rfl,rfl⟩
  | cons g gs ih =>
   intro hg
   obtain ⟨x,j⟩:=q g (hg g (by simp))
   obtain ⟨xs,h1,h2⟩:=ih fun z u=>hg z (by simp [u])
   exact ⟨x :: xs,by rw [List.flatten_cons,List.flatMap_cons,h1,j],by rw [List.length_cons,List.length_cons,h2]⟩
 obtain ⟨xs,h1,h2⟩:=this gs hg
 exact ⟨xs,by rw [h1],by omega⟩
theorem og {c:Cel} (h:Cnf (.row 3 [.int]) c):∃xs:List Int,c=aG xs/\xs.length<=maxLen:=by
 obtain ⟨xs,rfl,j⟩:=oD (cells:=fun x:Int=>[Cel.int x]) (fun g hg=>by
  obtain ⟨c,cs,rfl,h1,h2⟩:=bP.1 hg
  obtain ⟨x,rfl⟩:=ik.1 h1
  rw [gP.1 h2]
  exact ⟨x,rfl⟩) h
 exact ⟨xs,by unfold aG;rw [List.map_eq_flatMap];rfl,j⟩
theorem kD:Typ Tryz.prog 3 [.int] := .int Tryz.underlying3
theorem oh:Typ Tryz.prog 26 [.row 3 [.int]] := .slice Tryz.underlying26 (by kernel_rfl) (by decide) kD
section
variable {H:Type} {enc:TypeId × Value→H} {W:World} {base:Nat} {held:Bool}
theorem Dh {P:Program} {t:TypeId} {sh:List Shp} (hT:Typ P t sh):∀{q:Nat} {cs:List Value} {y:DataW H × List MemPlace},DataW.trod enc P W base (fun _=>true) held q t cs=some y→∃ces,jZ sh ces/\RdL W W.heap.size ces cs:=by
 induction hT with
 | int h =>
  intro q cs y R
  obtain ⟨n,rfl,_,_⟩:=DataW.trod_int h R
  refine ⟨[.int n],?_,?_⟩
  ·rw [bP];exact ⟨_,[],rfl,ik.2 ⟨n,rfl⟩,gP.2 rfl⟩
  ·rw [fG];exact ⟨_,[],rfl,jV.2 rfl,kV.2 rfl⟩
 | @slice t e e' f h hc h0 he ih =>
  intro q cs y R
  rcases Go.Deep.open_slice h R with ⟨rfl,_⟩|⟨a,len,ai,m,n,D,Pl,rfl,_,hl,hm,aj,_,hx⟩
  ·refine ⟨[.row e' f.length []],?_,?_⟩
   ·rw [bP];exact ⟨_,[],rfl,uS.2 ⟨[],rfl,by simp,by simp⟩,gP.2 rfl⟩
   rw [fG];exact ⟨_,[],rfl,EX,kV.2 rfl⟩
  ·simp only [if_true] at aj
   rw [hc] at hx
   have J:∀i,i<len→∃z:List Cel × List Value,jZ f z.1/\RdL W W.heap.size z.1 z.2/\∀j,j<f.length→W.cell? ((a.add (i * f.length)).add j)=z.2[j]?:=fun i hi=>by
    obtain ⟨ah,h1,h2⟩:=hx i (by omega)
    obtain ⟨g,k1,k2⟩:=ih h2
    exact ⟨(g,ah),k1,k2,(World.cells?_some h1).2.2⟩
   have:Inhabited (List Cel × List Value):=⟨([],[])⟩
   obtain ⟨z,G⟩:=Go.Deep.choose_lt J
   have ae:((List.range len).map fun i=>(z i).1).flatten=(List.range len).flatMap fun i=>(z i).1:=by rw [List.flatMap_def]
   have Q:((List.range len).flatMap fun i=>(z i).1).length=len * f.length:=kg fun i hi=>(G i hi).1.len
   refine ⟨[.row e' f.length ((List.range len).map fun i=>(z i).1).flatten],?_,?_⟩
   ·rw [bP]
    exact ⟨_,[],rfl,uS.2 ⟨_,rfl,by simp;omega,fun g hg=>by
     obtain ⟨i,hi,rfl⟩:=List.mem_map.1 hg
     exact (G i (List.mem_range.1 hi)).1⟩,gP.2 rfl⟩
   ·rw [fG]
    refine ⟨_,[],rfl,?_,kV.2 rfl⟩
    rw [mI,ae]
    refine ⟨_,len,ai,rfl,Q,?_⟩
    rcases Nat.eq_zero_or_pos len with B|B
    ·subst B;exact .inl rfl
    ·right
     have I:∀i,i<len→(z i).2.length=f.length:=fun i hi=>by rw [BQ (G i hi).2.1,(G i hi).1.len]
     have g0:=(G 0 B).2.2 0 h0
     rw [Nat.zero_mul,List.getElem?_eq_getElem (by rw [I 0 B];exact h0),Go.Deep.add_add] at g0
     obtain ⟨b,o,ha,hb⟩:=CO g0
     have ag:a=⟨b,o,none⟩:=by
      obtain ⟨b',o',s'⟩:=a
      simp only [Addr.add,Nat.add_zero] at ha
      exact ha
     subst ag
     simp only [EY] at G
     refine ⟨b,o,(List.range len).flatMap fun i=>(z i).2,rfl,hb,fun j u hu=>?_,Df fun i hi=>(G i hi).2.1⟩
     have Y:((List.range len).flatMap fun i=>(z i).2).length=len * f.length:=kg I
     have hj:j<len * f.length:=by
      rcases Nat.lt_or_ge j (len * f.length) with h|h
      ·exact h
      rw [List.getElem?_eq_none (by rw [Y];exact h)] at hu;cases hu
     have hq:j / f.length<len:=Nat.div_lt_of_lt_mul (by rw [Nat.mul_comm];exact hj)
     have hr:j % f.length<f.length:=Nat.mod_lt _ h0
     have hg:=(G (j / f.length) hq).2.2 (j % f.length) hr
     have K:j / f.length * f.length+j % f.length=j:=by rw [Nat.mul_comm];exact Nat.div_add_mod j f.length
     rw [K] at hg
     rw [hg,←hu]
     exact (qj (fun i hi=>I i hi) hq hr K).symm
 | @struct t fs gs h hl hc ho hf ht ih =>
  intro q cs y R
  obtain ⟨xs,n,_,_,V,Z,af⟩:=DataW.trod_struct h R
  refine wY (by rw [V,hc]) fun i g hg=>?_
  have hi:i<fs.size:=by rw [←hl];exact (List.getElem?_eq_some_iff.1 hg).1
  have U:fs[i]?=some fs[i]:=Array.getElem?_eq_getElem hi
  have h1:=af i _ U
  rw [ho i _ g U hg,hf i _ g U hg,List.getElem?_eq_getElem (by rw [Z];exact hi)] at h1
  exact ih i _ g U hg h1
theorem Di {P:Program} {b0:Nat} {t:TypeId} {fs:Array Field} {j:List Shp} {v:Value} {d:DataW H} {p:List MemPlace} (ht:P.underlying t=some (.struct fs)) (u:Typ P t j) (q:Value.okWide P W .any b0 t v) (h:DataW.Trod enc P W base (fun _=>true) held t v d p) :
  ∃(cs:List Value) (ces:List Cel),v = .agg cs.toArray/\jZ j ces/\RdL W W.heap.size ces cs:=by
 obtain ⟨cs,rfl,z⟩:=okWide_struct ht q
 obtain ⟨g,hf⟩:=h
 obtain ⟨ces,h1,h2⟩:=Dh u hf
 exact ⟨cs.toList,ces,by simp,h1,by simpa [Value.cells] using h2⟩
end
mutual
def szC:Cel→Nat
 | .int _=>0
 | .row _ s cs=>cs.length / s+af cs
def af:List Cel→Nat
 | []=>0
 | c :: cs=>szC c+af cs
end
mutual
def BdC:Cel→Prop
 | .int _=>True
 | .row _ s cs=>cs.length / s<=maxLen/\BdL cs
def BdL:List Cel→Prop
 | []=>True
 | c :: cs=>BdC c/\BdL cs
end
theorem fJ (x:Int):szC (.int x)=0:=by rw [szC]
theorem BR (e s:Nat) (cs:List Cel):szC (.row e s cs)=cs.length / s+af cs:=by rw [szC]
theorem bM:af []=0:=by rw [af]
theorem au (c:Cel) (cs:List Cel):af (c :: cs)=szC c+af cs:=by rw [af]
theorem oG {e s:Nat} {cs:List Cel}:BdC (.row e s cs)↔cs.length / s<=maxLen/\BdL cs:=by rw [BdC]
theorem EZ {x:Int}:BdC (.int x):=by rw [BdC];trivial
theorem r9:BdL []:=by rw [BdL];trivial
theorem ja {c:Cel} {cs:List Cel}:BdL (c :: cs)↔BdC c/\BdL cs:=by rw [BdL]
theorem iA:∀(cs g:List Cel),af (cs++g)=af cs+af g
 | [],g=>by rw [bM,Nat.zero_add];rfl
 | c :: cs,g=>by rw [List.cons_append,au,au,iA cs g,Nat.add_assoc]
theorem rG:∀{cs g:List Cel},BdL (cs++g)↔BdL cs/\BdL g
 | [],g=>by rw [List.nil_append];exact ⟨fun h=>⟨r9,h⟩,fun h=>h.2⟩
 | c :: cs,g=>by rw [List.cons_append,ja,ja,rG,and_assoc]
theorem CQ (xs:List Int):af (xs.map .int)=0:=by
 induction xs with
 | nil=>rw [List.map_nil,bM]
 | cons x xs ih=>rw [List.map_cons,au,fJ,ih]
theorem nO (xs:List Int):szC (aG xs)=xs.length:=by unfold aG;rw [BR,CQ,List.length_map,Nat.div_one,Nat.add_zero]
theorem fB {α:Type} {cells:α→List Cel} {s:Nat} (hf:∀x,(cells x).length=s):∀xs:List α,(xs.flatMap cells).length=xs.length * s
 | []=>by rw [List.flatMap_nil,List.length_nil,List.length_nil,Nat.zero_mul]
 | x :: xs=>by rw [List.flatMap_cons,List.length_append,hf,fB hf xs,List.length_cons,Nat.succ_mul,Nat.add_comm]
theorem bv {α:Type} {cells:α→List Cel} {s e:Nat} (hf:∀x,(cells x).length=s) (hs:0<s) (xs:List α):szC (.row e s (xs.flatMap cells))=xs.length+af (xs.flatMap cells):=by
 rw [BR,fB hf,Nat.mul_div_cancel _ hs]
theorem nP {α:Type} {cells:α→List Cel} {s e:Nat} (hf:∀x,(cells x).length=s) (hs:0<s) {xs:List α}:BdC (.row e s (xs.flatMap cells))↔xs.length<=maxLen/\BdL (xs.flatMap cells):=by
 rw [oG,fB hf,Nat.mul_div_cancel _ hs]
theorem ol {α:Type} {cells:α→List Cel}:∀{xs:List α},BdL (xs.flatMap cells)↔∀x∈xs,BdL (cells x)
 | []=>by rw [List.flatMap_nil];exact ⟨fun _ x j=>by simp at j,fun _=>r9⟩
 | x :: xs=>by
  rw [List.flatMap_cons,rG,ol]
  constructor
  ·rintro ⟨h1,h2⟩ y g
   rcases List.mem_cons.1 g with rfl|g
   ·exact h1
   exact h2 y g
  exact fun h=>⟨h x (by simp),fun y g=>h y (by simp [g])⟩
theorem mh {α:Type} {cells:α→List Cel} {xs:List α} {k:Nat} {z:α} (h:k<xs.length):af ((xs.take (k+1)).flatMap cells)=af ((xs.take k).flatMap cells)+af (cells (xs[k]?.getD z)):=by
 rw [List.take_add_one,List.getElem?_eq_getElem h,List.flatMap_append,iA,Option.getD_some]
 simp
theorem jh {α:Type} {cells:α→List Cel} (xs:List α) (k:Nat):af ((xs.take k).flatMap cells)<=af (xs.flatMap cells):=by
 have h:xs.flatMap cells=(xs.take k).flatMap cells++(xs.drop k).flatMap cells:=by rw [←List.flatMap_append,List.take_append_drop]
 rw [h,iA]
 omega
theorem iw {α:Type} {cells:α→List Cel} {xs:List α} {k:Nat} {z:α} (h:k<xs.length):af (cells (xs[k]?.getD z))<=af (xs.flatMap cells):=by
 have h1:=mh (cells:=cells) (z:=z) h
 have h2:=jh (cells:=cells) xs (k+1)
 omega
mutual
theorem Cnf.bd:∀{z:Shp} {c:Cel},Cnf z c→BdC c
 | .int,c,h=>by
  obtain ⟨x,rfl⟩:=ik.1 h
  exact EZ
 | .row e f,c,h=>by
  obtain ⟨gs,rfl,u,hg⟩:=uS.1 h
  have j:∀gs:List (List Cel),(∀g∈gs,jZ f g)→gs.flatten.length=gs.length * f.length/\BdL gs.flatten:=by
   intro gs
   induction gs with
   | nil=>exact fun _=>⟨by simp,r9⟩
   | cons g gs ih =>
    intro hg
    obtain ⟨h1,h2⟩:=ih fun B q=>hg B (by simp [q])
    have h3:=hg g (by simp)
    exact ⟨by rw [List.flatten_cons,List.length_append,h1,h3.len,List.length_cons,Nat.succ_mul,Nat.add_comm],by rw [List.flatten_cons,rG];exact ⟨jZ.bd h3,h2⟩⟩
  obtain ⟨h1,h2⟩:=j gs hg
  rw [oG,h1]
  refine ⟨?_,h2⟩
  rcases Nat.eq_zero_or_pos f.length with h0|h0
  ·rw [h0,Nat.div_zero];exact Nat.zero_le _
  rw [Nat.mul_div_cancel _ h0];exact u
theorem jZ.bd:∀{ss:List Shp} {cs:List Cel},jZ ss cs→BdL cs
 | [],cs,h=>by
  obtain rfl:=gP.1 h
  exact r9
 | s :: ss,cs,h=>by
  obtain ⟨c,g,rfl,h1,h2⟩:=bP.1 h
  exact ja.2 ⟨Cnf.bd h1,jZ.bd h2⟩
end
def ai.cells (l:ai):List Cel:=[.int l.inputs,bD l.seqs,bK l.luts,aG l.outs]
def Lay.cells (x:Lay):List Cel:=x.net.cells++[aa x.blocks,ag x.conns,aG x.place,bE x.routes]
def yw:List Shp:=[.row 3 [.int],.int]
theorem Ea:Typ Tryz.prog 184 yw := .of_flds Tryz.underlying184 (by kernel_rfl) (.cons (g:=[.row 3 [.int]]) rfl (by kernel_rfl) oh (.cons (g:=[.int]) rfl (by kernel_rfl) kD .nil))
theorem Dj:Typ Tryz.prog 25 [.row 96 yw] := .slice Tryz.underlying25 (by kernel_rfl) (by decide) Ea
theorem Eb {g:List Cel} (h:jZ yw g):∃x:Lt,g=x.cells:=by
 obtain ⟨z,_,rfl,k0,h⟩:=bP.1 h
 obtain ⟨c1,_,rfl,q,h⟩:=bP.1 h
 obtain rfl:=gP.1 h
 obtain ⟨u,rfl,_⟩:=og k0
 obtain ⟨j,rfl⟩:=ik.1 q
 exact ⟨⟨u,j⟩,rfl⟩
def yx:List Shp:=[.int,.int,.row 3 [.int]]
theorem Ec:Typ Tryz.prog 182 yx := .of_flds Tryz.underlying182 (by kernel_rfl) (.cons (g:=[.int]) rfl (by kernel_rfl) kD (.cons (g:=[.int]) rfl (by kernel_rfl) kD (.cons (g:=[.row 3 [.int]]) rfl (by kernel_rfl) oh .nil)))
theorem Dk:Typ Tryz.prog 24 [.row 91 yx] := .slice Tryz.underlying24 (by kernel_rfl) (by decide) Ec
theorem Ed {g:List Cel} (h:jZ yx g):∃x:Sq,g=x.cells:=by
 obtain ⟨D,_,rfl,k0,h⟩:=bP.1 h
 obtain ⟨c1,_,rfl,u,h⟩:=bP.1 h
 obtain ⟨c2,_,rfl,B,h⟩:=bP.1 h
 obtain rfl:=gP.1 h
 obtain ⟨z,rfl⟩:=ik.1 k0
 obtain ⟨j,rfl⟩:=ik.1 u
 obtain ⟨q,rfl,_⟩:=og B
 exact ⟨⟨z,j,q⟩,rfl⟩
def ut:List Shp:=[.int,.row 91 yx,.row 96 yw,.row 3 [.int]]
theorem AP:Typ Tryz.prog 28 ut := .of_flds Tryz.underlying28 (by kernel_rfl) (.cons (g:=[.int]) rfl (by kernel_rfl) kD (.cons (g:=[.row 91 yx]) rfl (by kernel_rfl) Dk (.cons (g:=[.row 96 yw]) rfl (by kernel_rfl) Dj (.cons (g:=[.row 3 [.int]]) rfl (by kernel_rfl) oh .nil))))
def Dl:List Shp:=[.int,.int]
theorem FH:Typ Tryz.prog 245 Dl := .of_flds Tryz.underlying245 (by kernel_rfl) (.cons (g:=[.int]) rfl (by kernel_rfl) kD (.cons (g:=[.int]) rfl (by kernel_rfl) kD .nil))
theorem Ee:Typ Tryz.prog 145 [.row 94 Dl] := .slice Tryz.underlying145 (by kernel_rfl) (by decide) FH
theorem FI {g:List Cel} (h:jZ Dl g):∃x:LeT,g=x.cells:=by
 obtain ⟨z,_,rfl,k0,h⟩:=bP.1 h
 obtain ⟨c1,_,rfl,q,h⟩:=bP.1 h
 obtain rfl:=gP.1 h
 obtain ⟨u,rfl⟩:=ik.1 k0
 obtain ⟨j,rfl⟩:=ik.1 q
 exact ⟨⟨u,j⟩,rfl⟩
def sD:List Shp:=[.int,.int,.row 94 Dl]
theorem CR:Typ Tryz.prog 147 sD := .of_flds Tryz.underlying147 (by kernel_rfl) (.cons (g:=[.int]) rfl (by kernel_rfl) kD (.cons (g:=[.int]) rfl (by kernel_rfl) kD (.cons (g:=[.row 94 Dl]) rfl (by kernel_rfl) Ee .nil)))
theorem AQ:Typ Tryz.prog 29 [.row 89 sD] := .slice Tryz.underlying29 (by kernel_rfl) (by decide) CR
theorem CS {g:List Cel} (h:jZ sD g):∃x:Blk,g=x.cells:=by
 obtain ⟨D,_,rfl,k0,h⟩:=bP.1 h
 obtain ⟨c1,_,rfl,u,h⟩:=bP.1 h
 obtain ⟨c2,_,rfl,B,h⟩:=bP.1 h
 obtain rfl:=gP.1 h
 obtain ⟨z,rfl⟩:=ik.1 k0
 obtain ⟨j,rfl⟩:=ik.1 u
 obtain ⟨q,rfl,_⟩:=oD (cells:=LeT.cells) (fun g hg=>FI hg) B
 exact ⟨⟨z,j,q⟩,rfl⟩
def uu:List Shp:=[.int,.int]
theorem BU:Typ Tryz.prog 149 uu := .of_flds Tryz.underlying149 (by kernel_rfl) (.cons (g:=[.int]) rfl (by kernel_rfl) kD (.cons (g:=[.int]) rfl (by kernel_rfl) kD .nil))
theorem Dm:Typ Tryz.prog 150 [.row 100 uu] := .slice Tryz.underlying150 (by kernel_rfl) (by decide) BU
theorem Ef {g:List Cel} (h:jZ uu g):∃x:ah,g=x.cells:=by
 obtain ⟨z,_,rfl,k0,h⟩:=bP.1 h
 obtain ⟨c1,_,rfl,q,h⟩:=bP.1 h
 obtain rfl:=gP.1 h
 obtain ⟨u,rfl⟩:=ik.1 k0
 obtain ⟨j,rfl⟩:=ik.1 q
 exact ⟨⟨u,j⟩,rfl⟩
def uw:List Shp:=[.int]++uu++[.row 100 uu]
theorem Dn:Typ Tryz.prog 152 uw := .of_flds Tryz.underlying152 (by kernel_rfl) (.cons (g:=[.int]) rfl (by kernel_rfl) kD (.cons (g:=uu) rfl (by kernel_rfl) BU (.cons (g:=[.row 100 uu]) rfl (by kernel_rfl) Dm .nil)))
theorem CU:Typ Tryz.prog 30 [.row 158 uw] := .slice Tryz.underlying30 (by kernel_rfl) (by decide) Dn
theorem Dp {g:List Cel} (h:jZ uw g):∃x:Cn,g=x.cells:=by
 obtain ⟨H,_,rfl,k0,h⟩:=bP.1 h
 obtain ⟨c1,_,rfl,u,h⟩:=bP.1 h
 obtain ⟨c2,_,rfl,G,h⟩:=bP.1 h
 obtain ⟨c3,_,rfl,z,h⟩:=bP.1 h
 obtain rfl:=gP.1 h
 obtain ⟨B,rfl⟩:=ik.1 k0
 obtain ⟨j,rfl⟩:=ik.1 u
 obtain ⟨q,rfl⟩:=ik.1 G
 obtain ⟨D,rfl,_⟩:=oD (cells:=ah.cells) (fun g hg=>Ef hg) z
 exact ⟨⟨B,⟨j,q⟩,D⟩,rfl⟩
def sF:List Shp:=[.row 3 [.int],.row 3 [.int]]
theorem CV:Typ Tryz.prog 154 sF := .of_flds Tryz.underlying154 (by kernel_rfl) (.cons (g:=[.row 3 [.int]]) rfl (by kernel_rfl) oh (.cons (g:=[.row 3 [.int]]) rfl (by kernel_rfl) oh .nil))
theorem AR:Typ Tryz.prog 31 [.row 114 sF] := .slice Tryz.underlying31 (by kernel_rfl) (by decide) CV
theorem CW {g:List Cel} (h:jZ sF g):∃x:Rou,g=x.cells:=by
 obtain ⟨z,_,rfl,k0,h⟩:=bP.1 h
 obtain ⟨c1,_,rfl,q,h⟩:=bP.1 h
 obtain rfl:=gP.1 h
 obtain ⟨u,rfl,_⟩:=og k0
 obtain ⟨j,rfl,_⟩:=og q
 exact ⟨⟨u,j⟩,rfl⟩
def yz:List Shp:=ut++[.row 89 sD,.row 158 uw,.row 3 [.int],.row 114 sF]
theorem AU:Typ Tryz.prog 33 yz := .of_flds Tryz.underlying33 (by kernel_rfl) (.cons (g:=ut) rfl (by kernel_rfl) AP (.cons (g:=[.row 89 sD]) rfl (by kernel_rfl) AQ (.cons (g:=[.row 158 uw]) rfl (by kernel_rfl) CU (.cons (g:=[.row 3 [.int]]) rfl (by kernel_rfl) oh (.cons (g:=[.row 114 sF]) rfl (by kernel_rfl) AR .nil)))))
theorem AV {g:List Cel} (h:jZ yz g):∃x:Lay,g=x.cells:=by
 obtain ⟨Z,_,rfl,k0,h⟩:=bP.1 h
 obtain ⟨c1,_,rfl,J,h⟩:=bP.1 h
 obtain ⟨c2,_,rfl,R,h⟩:=bP.1 h
 obtain ⟨c3,_,rfl,K,h⟩:=bP.1 h
 obtain ⟨c4,_,rfl,U,h⟩:=bP.1 h
 obtain ⟨c5,_,rfl,u,h⟩:=bP.1 h
 obtain ⟨W,_,rfl,D,h⟩:=bP.1 h
 obtain ⟨Y,_,rfl,G,h⟩:=bP.1 h
 obtain rfl:=gP.1 h
 obtain ⟨H,rfl⟩:=ik.1 k0
 obtain ⟨q,rfl,_⟩:=oD (cells:=Sq.cells) (fun g hg=>Ed hg) J
 obtain ⟨I,rfl,_⟩:=oD (cells:=Lt.cells) (fun g hg=>Eb hg) R
 obtain ⟨Q,rfl,_⟩:=og K
 obtain ⟨j,rfl,_⟩:=oD (cells:=Blk.cells) (fun g hg=>CS hg) U
 obtain ⟨V,rfl,_⟩:=oD (cells:=Cn.cells) (fun g hg=>Dp hg) u
 obtain ⟨z,rfl,_⟩:=og D
 obtain ⟨B,rfl,_⟩:=oD (cells:=Rou.cells) (fun g hg=>CW hg) G
 exact ⟨⟨⟨H,q,I,Q⟩,j,V,z,B⟩,rfl⟩
section
variable {H:Type} {enc:TypeId × Value→H} {W:World} {b0 base:Nat} {held:Bool}
theorem Dr {v:Value} {d:DataW H} {p:List MemPlace} (I:Value.okWide Tryz.prog W .any b0 33 v) (h:DataW.Trod enc Tryz.prog W base (fun _=>true) held 33 v d p) :
  ∃(x:Lay) (SA LA OA BA CA PA RA:Option Addr) (sn sc ln lc on oc bn bc cn cc pn pc rn rc:Nat),v = .agg #[.int .i64 x.net.inputs,.slice SA sn sc,.slice LA ln lc,.slice OA on oc,.slice BA bn bc,.slice CA cn cc,.slice PA pn pc,.slice RA rn rc] /\
   fo W x.net SA LA OA sn sc ln lc on oc/\RdC W W.heap.size (aa x.blocks) (.slice BA bn bc)/\RdC W W.heap.size (ag x.conns) (.slice CA cn cc)/\RdC W W.heap.size (aG x.place) (.slice PA pn pc)/\RdC W W.heap.size (bE x.routes) (.slice RA rn rc)/\BdL x.cells:=by
 obtain ⟨cs,ces,rfl,h1,h2⟩:=Di Tryz.underlying33 AU I h
 have J:=h1.bd
 obtain ⟨x,rfl⟩:=AV h1
 unfold Lay.cells ai.cells at h2
 obtain ⟨R,_,rfl,B,h2⟩:=fG.1 h2
 obtain ⟨V,_,rfl,z,h2⟩:=fG.1 h2
 obtain ⟨K,_,rfl,j,h2⟩:=fG.1 h2
 obtain ⟨Q,_,rfl,G,h2⟩:=fG.1 h2
 obtain ⟨U,_,rfl,g,h2⟩:=fG.1 h2
 obtain ⟨Y,_,rfl,q,h2⟩:=fG.1 h2
 obtain ⟨Z,_,rfl,D,h2⟩:=fG.1 h2
 obtain ⟨v7,_,rfl,u,h2⟩:=fG.1 h2
 obtain rfl:=kV.1 h2
 rw [jV] at B
 subst B
 obtain ⟨SA,sn,sc,rfl⟩:=eX (e:=91) (s:=3) z
 obtain ⟨LA,ln,lc,rfl⟩:=eX (e:=96) (s:=2) j
 obtain ⟨OA,on,oc,rfl⟩:=eX (e:=3) (s:=1) G
 obtain ⟨BA,bn,bc,rfl⟩:=eX (e:=89) (s:=3) g
 obtain ⟨CA,cn,cc,rfl⟩:=eX (e:=158) (s:=4) q
 obtain ⟨PA,pn,pc,rfl⟩:=eX (e:=3) (s:=1) D
 obtain ⟨RA,rn,rc,rfl⟩:=eX (e:=114) (s:=2) u
 exact ⟨x,SA,LA,OA,BA,CA,PA,RA,sn,sc,ln,lc,on,oc,bn,bc,cn,cc,pn,pc,rn,rc,rfl,⟨z,j,G⟩,g,q,D,u,J⟩
end
end Go.Proofs.YtofihjoanjkdmaaGreat
