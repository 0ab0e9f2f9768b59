/- Boards: what they read as, what the call owns of them; the laws' helpers on boards. Boards that come in: how they read. Tiles that come in: how they read. Nested data that come in, of any shape: how they read. Plain lemmas. The size of nested data, as the laws count it. Plain lemmas. Designs that come in: how they read (printed by mkarg.py). -/
import Derived.Test.YtlinbdkbbhpdpaaGreatCopies
import Derived.Test.YtlinbdkbbhpdpaaGreatOwn
import Derived.Test.YtlinbdkbbhpdpaaGreatRow2W
import Derived.Test.YtlinbdkbbhpdpaaGreatSrRd
namespace Go.Proofs.YtlinbdkbbhpdpaaGreat
set_option maxRecDepth 100000
open Go.RowKit

structure Bd where
 dev:Dev
 frames:List (List Int)
 state:List Int
 phase:Int
 reg:Reg
 saved:List (List Int)
/-- The three slices of a board's value. -/
structure Sl3 where
 A1:Option Addr
 n1:Nat
 c1:Nat
 A2:Option Addr
 n2:Nat
 c2:Nat
 A3:Option Addr
 n3:Nat
 c3:Nat
structure BoardRd (w:World) (b:Bd) (s:Sl3):Prop where
 frames:Rows2 w s.A1 s.n1 b.frames
 state:Ints w s.A2 s.n2 b.state
 saved:Rows2 w s.A3 s.n3 b.saved
theorem BoardRd.below {w w':World} {b:Bd} {s:Sl3} (h:BoardRd w b s) (hb:Below w.heap.size w w'):BoardRd w' b s:=⟨h.frames.below hb,h.state.below hb,h.saved.below hb⟩
/-- Two ranges of blocks lie apart. -/
def Ap (l1 h1 l2 h2:Nat):Prop:=h1≤l2∨h2≤l1
structure BoardIn (w:World) (b:Bd) (s:Sl3) (lo hi l1 h1 l2 h2 l3 h3:Nat):Prop where
 frames:Own2 l1 h1 w s.A1 s.n1 s.c1 b.frames
 state:Own l2 w s.A2 s.n2 s.c2 b.state
 lies:Lies s.A2 l2 h2
 saved:Own2 l3 h3 w s.A3 s.n3 s.c3 b.saved
 a12:Ap l1 h1 l2 h2
 a13:Ap l1 h1 l3 h3
 a23:Ap l2 h2 l3 h3
 in1:lo≤l1∧h1≤hi
 in2:lo≤l2∧h2≤hi
 in3:lo≤l3∧h3≤hi
def BoardAt (lo hi:Nat) (w:World) (b:Bd) (s:Sl3):Prop:=∃l1 h1 l2 h2 l3 h3,BoardIn w b s lo hi l1 h1 l2 h2 l3 h3
theorem Lies.own {A:Option Addr} {lo hi base:Nat} {w:World} {n c:Nat} {xs:List Int} (l:Lies A lo hi) (_:Own base w A n c xs):Lies A lo hi:=l
theorem BoardAt.rd {lo hi:Nat} {w:World} {b:Bd} {s:Sl3} (h:BoardAt lo hi w b s):BoardRd w b s:=by
 obtain ⟨l1,h1,l2,h2,l3,h3,hb⟩:=h
 exact ⟨hb.frames.rd,hb.state.rd,hb.saved.rd⟩
theorem BoardAt.below {lo hi:Nat} {w w':World} {b:Bd} {s:Sl3} (h:BoardAt lo hi w b s) (hb:Below w.heap.size w w'):BoardAt lo hi w' b s:=by
 obtain ⟨l1,h1,l2,h2,l3,h3,k⟩:=h
 exact ⟨l1,h1,l2,h2,l3,h3,k.frames.below hb,k.state.below hb,k.lies,k.saved.below hb,k.a12,k.a13,k.a23,k.in1,k.in2,k.in3⟩
theorem BoardAt.widen {lo hi lo' hi':Nat} {w:World} {b:Bd} {s:Sl3} (h:BoardAt lo hi w b s) (e1:lo'≤lo) (e2:hi≤hi'):BoardAt lo' hi' w b s:=by
 obtain ⟨l1,h1,l2,h2,l3,h3,k⟩:=h
 have i1:=k.in1
 have i2:=k.in2
 have i3:=k.in3
 exact ⟨l1,h1,l2,h2,l3,h3,k.frames,k.state,k.lies,k.saved,k.a12,k.a13,k.a23,⟨by omega,by omega⟩,⟨by omega,by omega⟩,⟨by omega,by omega⟩⟩
end Go.Proofs.YtlinbdkbbhpdpaaGreat

namespace Go.Proofs.YtlinbdkbbhpdpaaGreat
set_option maxRecDepth 100000
open Go.RowKit Go.ChangeShapes Go.WideShapes Go.ChangeAt

section
variable {H:Type} {enc:TypeId × Value→H} {W:World} {b0 base:Nat} {spare:Nat→Bool} {held:Bool}
end
end Go.Proofs.YtlinbdkbbhpdpaaGreat

namespace Go.Proofs.YtlinbdkbbhpdpaaGreat
set_option maxRecDepth 100000
open Go.RowKit Go.ChangeShapes Go.WideShapes Go.ChangeAt

theorem rdC_nil {w:World} {B e s cap:Nat}:RdC w B (.row e s []) (.slice none 0 cap):=by
 rw [rdC_row]
 exact ⟨none,0,cap,rfl,by simp,.inl rfl⟩
section
variable {H:Type} {enc:TypeId × Value→H} {W:World} {b0 base:Nat} {held:Bool}
theorem spot_none {a:Addr} {v:Value} (h:W.cell? a=some v):∃b o,a=⟨b,o,none⟩∧b<W.heap.size:=by
 obtain ⟨b,o,s⟩:=a
 have hs:s=none:=World.cell?_spot h
 subst hs
 exact ⟨b,o,rfl,cell_lt h⟩
theorem add_two (b o i j:Nat):((⟨b,o,none⟩:Addr).add i).add j=⟨b,o+(i+j),none⟩:=by rw [Go.Deep.add_add,Addr.add_lit]
end
end Go.Proofs.YtlinbdkbbhpdpaaGreat

namespace Go.Proofs.YtlinbdkbbhpdpaaGreat
set_option maxRecDepth 100000
open Go.RowKit Go.ChangeShapes Go.WideShapes Go.ChangeAt

/-- The shape of a cell: a number, or a slice whose elements have cells of some shapes (e: the type that my own words name). -/
inductive Shp where
 | int
 | row (e:Nat) (f:List Shp)
mutual
def Cnf:Shp→Cel→Prop
 | .int,c=>∃x,c = .int x
 | .row e f,c=>∃gs:List (List Cel),c = .row e f.length gs.flatten∧gs.length≤maxLen∧∀g∈gs,CnfL f g
def CnfL:List Shp→List Cel→Prop
 | [],cs=>cs=[]
 | s :: ss,cs=>∃c cs',cs=c :: cs'∧Cnf s c∧CnfL ss cs'
end
theorem cnf_int {c:Cel}:Cnf .int c↔∃x,c = .int x:=by rw [Cnf]
theorem cnf_row {e:Nat} {f:List Shp} {c:Cel}:Cnf (.row e f) c↔∃gs:List (List Cel),c = .row e f.length gs.flatten∧gs.length≤maxLen∧∀g∈gs,CnfL f g:=by rw [Cnf]
theorem cnfL_nil {cs:List Cel}:CnfL [] cs↔cs=[]:=by rw [CnfL]
theorem cnfL_cons {s:Shp} {ss:List Shp} {cs:List Cel}:CnfL (s :: ss) cs↔∃c cs',cs=c :: cs'∧Cnf s c∧CnfL ss cs':=by rw [CnfL]
theorem CnfL.len:∀{ss:List Shp} {cs:List Cel},CnfL ss cs→cs.length=ss.length
 | [],cs,h=>by rw [cnfL_nil] at h;subst h;rfl
 | s :: ss,cs,h=>by
  rw [cnfL_cons] at h
  obtain ⟨c,cs',rfl,_,h2⟩:=h
  rw [List.length_cons,List.length_cons,CnfL.len h2]
theorem CnfL.append:∀{ss:List Shp} {cs:List Cel} {ss':List Shp} {cs':List Cel},CnfL ss cs→CnfL ss' cs'→CnfL (ss++ss') (cs++cs')
 | [],cs,ss',cs',h,h'=>by rw [cnfL_nil] at h;subst h;exact h'
 | s :: ss,cs,ss',cs',h,h'=>by
  rw [cnfL_cons] at h
  obtain ⟨c,cs'',rfl,h1,h2⟩:=h
  rw [List.cons_append,cnfL_cons]
  exact ⟨c,cs''++cs',rfl,h1,h2.append h'⟩
theorem rdL_app {w:World} {B:Nat}:∀{cs:List Cel} {vs:List Value} {cs':List Cel} {vs':List Value},RdL w B cs vs→RdL w B cs' vs'→RdL w B (cs++cs') (vs++vs')
 | [],vs,cs',vs',h,h'=>by rw [rdL_nil] at h;subst h;exact h'
 | c :: cs,vs,cs',vs',h,h'=>by
  rw [rdL_cons] at h
  obtain ⟨v,vs'',rfl,h1,h2⟩:=h
  rw [List.cons_append,rdL_cons]
  exact ⟨v,vs''++vs',rfl,h1,rdL_app h2 h'⟩
theorem rdL_len {w:World} {B:Nat}:∀{cs:List Cel} {vs:List Value},RdL w B cs vs→vs.length=cs.length
 | [],vs,h=>by rw [rdL_nil] at h;subst h;rfl
 | c :: cs,vs,h=>by
  rw [rdL_cons] at h
  obtain ⟨v,vs',rfl,_,h2⟩:=h
  rw [List.length_cons,List.length_cons,rdL_len h2]
theorem rdL_flat {w:World} {B:Nat} {G:Nat→List Cel} {V:Nat→List Value} {n:Nat} (h:∀i,i<n→RdL w B (G i) (V i)):RdL w B ((List.range n).flatMap G) ((List.range n).flatMap V):=by
 induction n with
 | zero=>simp [rdL_nil]
 | succ n ih =>
  rw [List.range_succ,List.flatMap_append,List.flatMap_append,List.flatMap_singleton,List.flatMap_singleton]
  exact rdL_app (ih fun i hi=>h i (by omega)) (h n (by omega))
theorem flat_len_range {α:Type} {V:Nat→List α} {s:Nat}:∀{n:Nat},(∀i,i<n→(V i).length=s)→((List.range n).flatMap V).length=n * s
 | 0,_=>by rw [Nat.zero_mul];rfl
 | n+1,h=>by rw [List.range_succ,List.flatMap_append,List.flatMap_singleton,List.length_append,flat_len_range fun i hi=>h i (by omega),h n (by omega),Nat.succ_mul]
theorem flat_at_range {α:Type} {V:Nat→List α} {s:Nat}:∀{n:Nat},(∀i,i<n→(V i).length=s)→∀{q r j:Nat},q<n→r<s→q * s+r=j→((List.range n).flatMap V)[j]?=(V q)[r]?
 | 0,_,q,_,_,hq,_,_=>by omega
 | n+1,h,q,r,j,hq,hr,hj=>by
  have hl:((List.range n).flatMap V).length=n * s:=flat_len_range fun i hi=>h i (by omega)
  rw [List.range_succ,List.flatMap_append,List.flatMap_singleton]
  rcases Nat.lt_or_ge q n with hqn|hqn
  ·have hm:=Nat.mul_le_mul_right s (show q+1≤n by omega)
   rw [Nat.succ_mul] at hm
   rw [List.getElem?_append_left (by rw [hl];omega)]
   exact flat_at_range (fun i hi=>h i (by omega)) hqn hr hj
  ·obtain rfl:q=n:=by omega
   rw [List.getElem?_append_right (by rw [hl];omega),hl,show j - q * s=r by omega]
/-- What a type's cells look like. -/
inductive Typ (P:Program):TypeId→List Shp→Prop
 | int {t:TypeId} (h:P.underlying t=some (.int .i64)):Typ P t [.int]
 | slice {t e:TypeId} {e':Nat} {f:List Shp} (h:P.underlying t=some (.slice e)) (hc:P.cellsOf e=f.length) (h0:0<f.length) (he:Typ P e f):Typ P t [.row e' f]
 | struct {t:TypeId} {fs:Array Field} {gs:List (List Shp)} (h:P.underlying t=some (.struct fs)) (hl:gs.length=fs.size) (hc:P.cellsOf t=gs.flatten.length)
   (ho:∀(i:Nat) (F:Field) (g:List Shp),fs[i]?=some F→gs[i]?=some g→F.offset=(gs.take i).flatten.length) (hf:∀(i:Nat) (F:Field) (g:List Shp),fs[i]?=some F→gs[i]?=some g→P.cellsOf F.type=g.length)
   (ht:∀(i:Nat) (F:Field) (g:List Shp),fs[i]?=some F→gs[i]?=some g→Typ P F.type g):Typ P t gs.flatten
theorem fields_rd {w:World} {B:Nat}:∀{gs:List (List Shp)} {cs:List Value},cs.length=gs.flatten.length→(∀(i:Nat) (g:List Shp),gs[i]?=some g→∃ces,CnfL g ces∧RdL w B ces ((cs.drop (gs.take i).flatten.length).take g.length))→∃ces,CnfL gs.flatten ces∧RdL w B ces cs
 | [],cs,hl,_=>⟨[],by rw [List.flatten_nil,cnfL_nil],by rw [rdL_nil];exact List.eq_nil_of_length_eq_zero hl⟩
 | g :: gs,cs,hl,h=>by
  rw [List.flatten_cons,List.length_append] at hl
  obtain ⟨c0,h0,r0⟩:=h 0 g rfl
  obtain ⟨c1,h1,r1⟩:=fields_rd (gs:=gs) (cs:=cs.drop g.length) (w:=w) (B:=B) (by rw [List.length_drop];omega) fun i g' hg=>by
   have:=h (i+1) g' hg
   rwa [List.take_succ_cons,List.flatten_cons,List.length_append,←List.drop_drop] at this
  refine ⟨c0++c1,by rw [List.flatten_cons];exact h0.append h1,?_⟩
  rw [List.take_zero,List.flatten_nil,List.length_nil,List.drop_zero] at r0
  rw [←List.take_append_drop g.length cs]
  exact rdL_app r0 r1
/-- The fields of a struct, one after the other. -/
inductive Flds (P:Program):Nat→List Field→List Shp→Prop
 | nil {o:Nat}:Flds P o [] []
 | cons {o:Nat} {F:Field} {Fs:List Field} {g ss:List Shp} (ho:F.offset=o) (hc:P.cellsOf F.type=g.length) (ht:Typ P F.type g) (hs:Flds P (o+g.length) Fs ss):Flds P o (F :: Fs) (g++ss)
theorem Flds.groups {P:Program} {o:Nat} {Fs:List Field} {ss:List Shp} (h:Flds P o Fs ss):∃gs:List (List Shp),ss=gs.flatten∧gs.length=Fs.length∧∀(i:Nat) (F:Field) (g:List Shp),Fs[i]?=some F→gs[i]?=some g→F.offset=o+(gs.take i).flatten.length∧P.cellsOf F.type=g.length∧Typ P F.type g:=by
 induction h with
 | nil=>exact ⟨[],rfl,rfl,fun i F g h=>by simp at h⟩
 | @cons o F Fs g ss ho hc ht hs ih =>
  obtain ⟨gs,rfl,hl,hx⟩:=ih
  refine ⟨g :: gs,rfl,by rw [List.length_cons,List.length_cons,hl],fun i F' g' h1 h2=>?_⟩
  rcases i with _|i
  ·rw [List.getElem?_cons_zero,Option.some.injEq] at h1 h2
   subst h1 h2
   exact ⟨ho,hc,ht⟩
  ·rw [List.getElem?_cons_succ] at h1 h2
   obtain ⟨k1,k2,k3⟩:=hx i F' g' h1 h2
   exact ⟨by rw [k1,List.take_succ_cons,List.flatten_cons,List.length_append];omega,k2,k3⟩
theorem Typ.of_flds {P:Program} {t:TypeId} {fs:Array Field} {sh:List Shp} (h:P.underlying t=some (.struct fs)) (hc:P.cellsOf t=sh.length) (hf:Flds P 0 fs.toList sh):Typ P t sh:=by
 obtain ⟨gs,rfl,hl,hx⟩:=hf.groups
 have hx':∀(i:Nat) (F:Field) (g:List Shp),fs[i]?=some F→gs[i]?=some g→F.offset=0+(gs.take i).flatten.length∧P.cellsOf F.type=g.length∧Typ P F.type g:=fun i F g h1 h2=>hx i F g (by rw [Array.getElem?_toList];exact h1) h2
 exact .struct h (by rw [hl,Array.length_toList]) hc (fun i F g h1 h2=>by rw [(hx' i F g h1 h2).1,Nat.zero_add]) (fun i F g h1 h2=>(hx' i F g h1 h2).2.1) fun i F g h1 h2=>(hx' i F g h1 h2).2.2
/-- Elements that have a name are a list of such. -/
theorem cnf_dec {α:Type} {cells:α→List Cel} {e:Nat} {f:List Shp} {c:Cel} (hd:∀g,CnfL f g→∃x,g=cells x) (h:Cnf (.row e f) c):∃xs:List α,c = .row e f.length (xs.flatMap cells)∧xs.length≤maxLen:=by
 obtain ⟨gs,rfl,hm,hg⟩:=cnf_row.1 h
 have:∀gs:List (List Cel),(∀g∈gs,CnfL f g)→∃xs:List α,gs.flatten=xs.flatMap cells∧xs.length=gs.length:=by
  intro gs
  induction gs with
  | nil=>exact fun _=>⟨[],rfl,rfl⟩
  | cons g gs ih =>
   intro hg
   obtain ⟨x,hx⟩:=hd g (hg g (by simp))
   obtain ⟨xs,h1,h2⟩:=ih fun g' h'=>hg g' (by simp [h'])
   exact ⟨x :: xs,by rw [List.flatten_cons,List.flatMap_cons,h1,hx],by rw [List.length_cons,List.length_cons,h2]⟩
 obtain ⟨xs,h1,h2⟩:=this gs hg
 exact ⟨xs,by rw [h1],by omega⟩
theorem cnf_ints {c:Cel} (h:Cnf (.row 3 [.int]) c):∃xs:List Int,c=celI xs∧xs.length≤maxLen:=by
 obtain ⟨xs,rfl,hm⟩:=cnf_dec (cells:=fun x:Int=>[Cel.int x]) (fun g hg=>by
  obtain ⟨c,cs,rfl,h1,h2⟩:=cnfL_cons.1 hg
  obtain ⟨x,rfl⟩:=cnf_int.1 h1
  rw [cnfL_nil.1 h2]
  exact ⟨x,rfl⟩) h
 exact ⟨xs,by unfold celI;rw [List.map_eq_flatMap];rfl,hm⟩
theorem typ_int:Typ Tryz.prog 3 [.int] := .int Tryz.underlying3
theorem typ_ints:Typ Tryz.prog 29 [.row 3 [.int]] := .slice Tryz.underlying29 (by kernel_rfl) (by decide) typ_int
section
variable {H:Type} {enc:TypeId × Value→H} {W:World} {base:Nat} {held:Bool}
theorem trod_typ {P:Program} {t:TypeId} {sh:List Shp} (hT:Typ P t sh):∀{fuel:Nat} {cs:List Value} {y:DataW H × List MemPlace},DataW.trod enc P W base (fun _=>true) held fuel t cs=some y→∃ces,CnfL sh ces∧RdL W W.heap.size ces cs:=by
 induction hT with
 | int h =>
  intro fuel cs y hy
  obtain ⟨n,rfl,_,_⟩:=DataW.trod_int h hy
  refine ⟨[.int n],?_,?_⟩
  ·rw [cnfL_cons];exact ⟨_,[],rfl,cnf_int.2 ⟨n,rfl⟩,cnfL_nil.2 rfl⟩
  ·rw [rdL_cons];exact ⟨_,[],rfl,rdC_int.2 rfl,rdL_nil.2 rfl⟩
 | @slice t e e' f h hc h0 he ih =>
  intro fuel cs y hy
  rcases Go.Deep.open_slice h hy with ⟨rfl,_⟩|⟨a,len,cap,m,n,D,Pl,rfl,_,hl,hm,hmm,_,hx⟩
  ·refine ⟨[.row e' f.length []],?_,?_⟩
   ·rw [cnfL_cons];exact ⟨_,[],rfl,cnf_row.2 ⟨[],rfl,by simp,by simp⟩,cnfL_nil.2 rfl⟩
   ·rw [rdL_cons];exact ⟨_,[],rfl,rdC_nil,rdL_nil.2 rfl⟩
  ·simp only [if_true] at hmm
   rw [hc] at hx
   have hone:∀i,i<len→∃z:List Cel × List Value,CnfL f z.1∧RdL W W.heap.size z.1 z.2∧∀j,j<f.length→W.cell? ((a.add (i * f.length)).add j)=z.2[j]?:=fun i hi=>by
    obtain ⟨cs',h1,h2⟩:=hx i (by omega)
    obtain ⟨g,k1,k2⟩:=ih h2
    exact ⟨(g,cs'),k1,k2,(World.cells?_some h1).2.2⟩
   have:Inhabited (List Cel × List Value):=⟨([],[])⟩
   obtain ⟨z,hz⟩:=Go.Deep.choose_lt hone
   have hfl:((List.range len).map fun i=>(z i).1).flatten=(List.range len).flatMap fun i=>(z i).1:=by rw [List.flatMap_def]
   have hlen:((List.range len).flatMap fun i=>(z i).1).length=len * f.length:=flat_len_range fun i hi=>(hz i hi).1.len
   refine ⟨[.row e' f.length ((List.range len).map fun i=>(z i).1).flatten],?_,?_⟩
   ·rw [cnfL_cons]
    exact ⟨_,[],rfl,cnf_row.2 ⟨_,rfl,by simp;omega,fun g hg=>by
     obtain ⟨i,hi,rfl⟩:=List.mem_map.1 hg
     exact (hz i (List.mem_range.1 hi)).1⟩,cnfL_nil.2 rfl⟩
   ·rw [rdL_cons]
    refine ⟨_,[],rfl,?_,rdL_nil.2 rfl⟩
    rw [rdC_row,hfl]
    refine ⟨_,len,cap,rfl,hlen,?_⟩
    rcases Nat.eq_zero_or_pos len with h0'|h0'
    ·subst h0';exact .inl rfl
    ·right
     have hzl:∀i,i<len→(z i).2.length=f.length:=fun i hi=>by rw [rdL_len (hz i hi).2.1,(hz i hi).1.len]
     have g0:=(hz 0 h0').2.2 0 h0
     rw [Nat.zero_mul,List.getElem?_eq_getElem (by rw [hzl 0 h0'];exact h0),Go.Deep.add_add] at g0
     obtain ⟨b,o,ha,hb⟩:=spot_none g0
     have ha2:a=⟨b,o,none⟩:=by
      obtain ⟨b',o',s'⟩:=a
      simp only [Addr.add,Nat.add_zero] at ha
      exact ha
     subst ha2
     simp only [add_two] at hz
     refine ⟨b,o,(List.range len).flatMap fun i=>(z i).2,rfl,hb,fun j u hu=>?_,rdL_flat fun i hi=>(hz i hi).2.1⟩
     have hvl:((List.range len).flatMap fun i=>(z i).2).length=len * f.length:=flat_len_range hzl
     have hj:j<len * f.length:=by
      rcases Nat.lt_or_ge j (len * f.length) with h|h
      ·exact h
      ·rw [List.getElem?_eq_none (by rw [hvl];exact h)] at hu;cases hu
     have hq:j / f.length<len:=Nat.div_lt_of_lt_mul (by rw [Nat.mul_comm];exact hj)
     have hr:j % f.length<f.length:=Nat.mod_lt _ h0
     have hg:=(hz (j / f.length) hq).2.2 (j % f.length) hr
     have hjj:j / f.length * f.length+j % f.length=j:=by rw [Nat.mul_comm];exact Nat.div_add_mod j f.length
     rw [hjj] at hg
     rw [hg,←hu]
     exact (flat_at_range (fun i hi=>hzl i hi) hq hr hjj).symm
 | @struct t fs gs h hl hc ho hf ht ih =>
  intro fuel cs y hy
  obtain ⟨xs,n,_,_,hcl,hxl,hxs⟩:=DataW.trod_struct h hy
  refine fields_rd (by rw [hcl,hc]) fun i g hg=>?_
  have hi:i<fs.size:=by rw [←hl];exact (List.getElem?_eq_some_iff.1 hg).1
  have hF:fs[i]?=some fs[i]:=Array.getElem?_eq_getElem hi
  have h1:=hxs i _ hF
  rw [ho i _ g hF hg,hf i _ g hF hg,List.getElem?_eq_getElem (by rw [hxl];exact hi)] at h1
  exact ih i _ g hF hg h1
/-- A struct that comes in. -/
theorem open_typ {P:Program} {b0:Nat} {t:TypeId} {fs:Array Field} {sh:List Shp} {v:Value} {d:DataW H} {p:List MemPlace} (ht:P.underlying t=some (.struct fs)) (hT:Typ P t sh) (hv:Value.okWide P W .any b0 t v) (h:DataW.Trod enc P W base (fun _=>true) held t v d p) :
  ∃(cs:List Value) (ces:List Cel),v = .agg cs.toArray∧CnfL sh ces∧RdL W W.heap.size ces cs:=by
 obtain ⟨cs,rfl,hsz⟩:=okWide_struct ht hv
 obtain ⟨fuel,hf⟩:=h
 obtain ⟨ces,h1,h2⟩:=trod_typ hT hf
 exact ⟨cs.toList,ces,by simp,h1,by simpa [Value.cells] using h2⟩
end
end Go.Proofs.YtlinbdkbbhpdpaaGreat

namespace Go.Proofs.YtlinbdkbbhpdpaaGreat
set_option maxRecDepth 100000
open Go.RowKit

mutual
def szC:Cel→Nat
 | .int _=>0
 | .row _ s cs=>cs.length / s+szCL cs
def szCL:List Cel→Nat
 | []=>0
 | c :: cs=>szC c+szCL cs
end
mutual
/-- No slice is longer than a slice can be. -/
def BdC:Cel→Prop
 | .int _=>True
 | .row _ s cs=>cs.length / s≤maxLen∧BdL cs
def BdL:List Cel→Prop
 | []=>True
 | c :: cs=>BdC c∧BdL cs
end
theorem szC_int (x:Int):szC (.int x)=0:=by rw [szC]
theorem szC_row (e s:Nat) (cs:List Cel):szC (.row e s cs)=cs.length / s+szCL cs:=by rw [szC]
theorem szCL_nil:szCL []=0:=by rw [szCL]
theorem szCL_cons (c:Cel) (cs:List Cel):szCL (c :: cs)=szC c+szCL cs:=by rw [szCL]
theorem bdC_row {e s:Nat} {cs:List Cel}:BdC (.row e s cs)↔cs.length / s≤maxLen∧BdL cs:=by rw [BdC]
theorem bdC_int {x:Int}:BdC (.int x):=by rw [BdC];trivial
theorem bdL_nil:BdL []:=by rw [BdL];trivial
theorem bdL_cons {c:Cel} {cs:List Cel}:BdL (c :: cs)↔BdC c∧BdL cs:=by rw [BdL]
theorem szCL_append:∀(cs ds:List Cel),szCL (cs++ds)=szCL cs+szCL ds
 | [],ds=>by rw [szCL_nil,Nat.zero_add];rfl
 | c :: cs,ds=>by rw [List.cons_append,szCL_cons,szCL_cons,szCL_append cs ds,Nat.add_assoc]
theorem bdL_append:∀{cs ds:List Cel},BdL (cs++ds)↔BdL cs∧BdL ds
 | [],ds=>by rw [List.nil_append];exact ⟨fun h=>⟨bdL_nil,h⟩,fun h=>h.2⟩
 | c :: cs,ds=>by rw [List.cons_append,bdL_cons,bdL_cons,bdL_append,and_assoc]
theorem szCL_ints (xs:List Int):szCL (xs.map .int)=0:=by
 induction xs with
 | nil=>rw [List.map_nil,szCL_nil]
 | cons x xs ih=>rw [List.map_cons,szCL_cons,szC_int,ih]
theorem szC_ints (xs:List Int):szC (celI xs)=xs.length:=by unfold celI;rw [szC_row,szCL_ints,List.length_map,Nat.div_one,Nat.add_zero]
theorem flatLen {α:Type} {cells:α→List Cel} {s:Nat} (hf:∀x,(cells x).length=s):∀xs:List α,(xs.flatMap cells).length=xs.length * s
 | []=>by rw [List.flatMap_nil,List.length_nil,List.length_nil,Nat.zero_mul]
 | x :: xs=>by rw [List.flatMap_cons,List.length_append,hf,flatLen hf xs,List.length_cons,Nat.succ_mul,Nat.add_comm]
theorem szC_flat {α:Type} {cells:α→List Cel} {s e:Nat} (hf:∀x,(cells x).length=s) (hs:0<s) (xs:List α):szC (.row e s (xs.flatMap cells))=xs.length+szCL (xs.flatMap cells):=by
 rw [szC_row,flatLen hf,Nat.mul_div_cancel _ hs]
theorem bdC_flat {α:Type} {cells:α→List Cel} {s e:Nat} (hf:∀x,(cells x).length=s) (hs:0<s) {xs:List α}:BdC (.row e s (xs.flatMap cells))↔xs.length≤maxLen∧BdL (xs.flatMap cells):=by
 rw [bdC_row,flatLen hf,Nat.mul_div_cancel _ hs]
theorem bdL_flat {α:Type} {cells:α→List Cel}:∀{xs:List α},BdL (xs.flatMap cells)↔∀x∈xs,BdL (cells x)
 | []=>by rw [List.flatMap_nil];exact ⟨fun _ x hx=>by simp at hx,fun _=>bdL_nil⟩
 | x :: xs=>by
  rw [List.flatMap_cons,bdL_append,bdL_flat]
  constructor
  ·rintro ⟨h1,h2⟩ y hy
   rcases List.mem_cons.1 hy with rfl|hy
   ·exact h1
   ·exact h2 y hy
  ·exact fun h=>⟨h x (by simp),fun y hy=>h y (by simp [hy])⟩
theorem szCL_take {α:Type} {cells:α→List Cel} {xs:List α} {k:Nat} {z:α} (h:k<xs.length):szCL ((xs.take (k+1)).flatMap cells)=szCL ((xs.take k).flatMap cells)+szCL (cells (xs[k]?.getD z)):=by
 rw [List.take_add_one,List.getElem?_eq_getElem h,List.flatMap_append,szCL_append,Option.getD_some]
 simp
theorem szCL_take_le {α:Type} {cells:α→List Cel} (xs:List α) (k:Nat):szCL ((xs.take k).flatMap cells)≤szCL (xs.flatMap cells):=by
 have h:xs.flatMap cells=(xs.take k).flatMap cells++(xs.drop k).flatMap cells:=by rw [←List.flatMap_append,List.take_append_drop]
 rw [h,szCL_append]
 omega
theorem szCL_elem {α:Type} {cells:α→List Cel} {xs:List α} {k:Nat} {z:α} (h:k<xs.length):szCL (cells (xs[k]?.getD z))≤szCL (xs.flatMap cells):=by
 have h1:=szCL_take (cells:=cells) (z:=z) h
 have h2:=szCL_take_le (cells:=cells) xs (k+1)
 omega
mutual
theorem Cnf.bd:∀{sh:Shp} {c:Cel},Cnf sh c→BdC c
 | .int,c,h=>by
  obtain ⟨x,rfl⟩:=cnf_int.1 h
  exact bdC_int
 | .row e f,c,h=>by
  obtain ⟨gs,rfl,hm,hg⟩:=cnf_row.1 h
  have hgl:∀gs:List (List Cel),(∀g∈gs,CnfL f g)→gs.flatten.length=gs.length * f.length∧BdL gs.flatten:=by
   intro gs
   induction gs with
   | nil=>exact fun _=>⟨by simp,bdL_nil⟩
   | cons g gs ih =>
    intro hg
    obtain ⟨h1,h2⟩:=ih fun g' h'=>hg g' (by simp [h'])
    have h3:=hg g (by simp)
    exact ⟨by rw [List.flatten_cons,List.length_append,h1,h3.len,List.length_cons,Nat.succ_mul,Nat.add_comm],by rw [List.flatten_cons,bdL_append];exact ⟨CnfL.bd h3,h2⟩⟩
  obtain ⟨h1,h2⟩:=hgl gs hg
  rw [bdC_row,h1]
  refine ⟨?_,h2⟩
  rcases Nat.eq_zero_or_pos f.length with h0|h0
  ·rw [h0,Nat.div_zero];exact Nat.zero_le _
  ·rw [Nat.mul_div_cancel _ h0];exact hm
theorem CnfL.bd:∀{ss:List Shp} {cs:List Cel},CnfL ss cs→BdL cs
 | [],cs,h=>by
  obtain rfl:=cnfL_nil.1 h
  exact bdL_nil
 | s :: ss,cs,h=>by
  obtain ⟨c,cs',rfl,h1,h2⟩:=cnfL_cons.1 h
  exact bdL_cons.2 ⟨Cnf.bd h1,CnfL.bd h2⟩
end
end Go.Proofs.YtlinbdkbbhpdpaaGreat

namespace Go.Proofs.YtlinbdkbbhpdpaaGreat
set_option maxRecDepth 100000
open Go.RowKit Go.ChangeShapes Go.WideShapes Go.ChangeAt

def shSignal:List Shp:=[.int,.int,.int]
theorem typ_Signal:Typ Tryz.prog 242 shSignal := .of_flds Tryz.underlying242 (by kernel_rfl) (.cons (g:=[.int]) rfl (by kernel_rfl) typ_int (.cons (g:=[.int]) rfl (by kernel_rfl) typ_int (.cons (g:=[.int]) rfl (by kernel_rfl) typ_int .nil)))
theorem typS_Signal:Typ Tryz.prog 144 [.row 155 shSignal] := .slice Tryz.underlying144 (by kernel_rfl) (by decide) typ_Signal
theorem dec_Signal {g:List Cel} (h:CnfL shSignal g):∃x:SgT,g=x.cells:=by
 obtain ⟨c0,_,rfl,k0,h⟩:=cnfL_cons.1 h
 obtain ⟨c1,_,rfl,k1,h⟩:=cnfL_cons.1 h
 obtain ⟨c2,_,rfl,k2,h⟩:=cnfL_cons.1 h
 obtain rfl:=cnfL_nil.1 h
 obtain ⟨a0,rfl⟩:=cnf_int.1 k0
 obtain ⟨a1,rfl⟩:=cnf_int.1 k1
 obtain ⟨a2,rfl⟩:=cnf_int.1 k2
 exact ⟨⟨a0,a1,a2⟩,rfl⟩
def shOp:List Shp:=[.int,.int,.int]
theorem typ_Op:Typ Tryz.prog 260 shOp := .of_flds Tryz.underlying260 (by kernel_rfl) (.cons (g:=[.int]) rfl (by kernel_rfl) typ_int (.cons (g:=[.int]) rfl (by kernel_rfl) typ_int (.cons (g:=[.int]) rfl (by kernel_rfl) typ_int .nil)))
theorem typS_Op:Typ Tryz.prog 229 [.row 198 shOp] := .slice Tryz.underlying229 (by kernel_rfl) (by decide) typ_Op
theorem dec_Op {g:List Cel} (h:CnfL shOp g):∃x:OpT,g=x.cells:=by
 obtain ⟨c0,_,rfl,k0,h⟩:=cnfL_cons.1 h
 obtain ⟨c1,_,rfl,k1,h⟩:=cnfL_cons.1 h
 obtain ⟨c2,_,rfl,k2,h⟩:=cnfL_cons.1 h
 obtain rfl:=cnfL_nil.1 h
 obtain ⟨a0,rfl⟩:=cnf_int.1 k0
 obtain ⟨a1,rfl⟩:=cnf_int.1 k1
 obtain ⟨a2,rfl⟩:=cnf_int.1 k2
 exact ⟨⟨a0,a1,a2⟩,rfl⟩
def shAssign:List Shp:=[.int,.row 198 shOp]
theorem typ_Assign:Typ Tryz.prog 231 shAssign := .of_flds Tryz.underlying231 (by kernel_rfl) (.cons (g:=[.int]) rfl (by kernel_rfl) typ_int (.cons (g:=[.row 198 shOp]) rfl (by kernel_rfl) typS_Op .nil))
theorem typS_Assign:Typ Tryz.prog 145 [.row 196 shAssign] := .slice Tryz.underlying145 (by kernel_rfl) (by decide) typ_Assign
theorem dec_Assign {g:List Cel} (h:CnfL shAssign g):∃x:AsT,g=x.cells:=by
 obtain ⟨c0,_,rfl,k0,h⟩:=cnfL_cons.1 h
 obtain ⟨c1,_,rfl,k1,h⟩:=cnfL_cons.1 h
 obtain rfl:=cnfL_nil.1 h
 obtain ⟨a0,rfl⟩:=cnf_int.1 k0
 obtain ⟨a1,rfl,_⟩:=cnf_dec (cells:=OpT.cells) (fun g hg=>dec_Op hg) k1
 exact ⟨⟨a0,a1⟩,rfl⟩
def shInst:List Shp:=[.int,.int,.row 3 [.int]]
theorem typ_Inst:Typ Tryz.prog 233 shInst := .of_flds Tryz.underlying233 (by kernel_rfl) (.cons (g:=[.int]) rfl (by kernel_rfl) typ_int (.cons (g:=[.int]) rfl (by kernel_rfl) typ_int (.cons (g:=[.row 3 [.int]]) rfl (by kernel_rfl) typ_ints .nil)))
theorem typS_Inst:Typ Tryz.prog 146 [.row 202 shInst] := .slice Tryz.underlying146 (by kernel_rfl) (by decide) typ_Inst
theorem dec_Inst {g:List Cel} (h:CnfL shInst g):∃x:InT,g=x.cells:=by
 obtain ⟨c0,_,rfl,k0,h⟩:=cnfL_cons.1 h
 obtain ⟨c1,_,rfl,k1,h⟩:=cnfL_cons.1 h
 obtain ⟨c2,_,rfl,k2,h⟩:=cnfL_cons.1 h
 obtain rfl:=cnfL_nil.1 h
 obtain ⟨a0,rfl⟩:=cnf_int.1 k0
 obtain ⟨a1,rfl⟩:=cnf_int.1 k1
 obtain ⟨a2,rfl,_⟩:=cnf_ints k2
 exact ⟨⟨a0,a1,a2⟩,rfl⟩
def shMem:List Shp:=[.int,.int,.int,.int]
theorem typ_Mem:Typ Tryz.prog 246 shMem := .of_flds Tryz.underlying246 (by kernel_rfl) (.cons (g:=[.int]) rfl (by kernel_rfl) typ_int (.cons (g:=[.int]) rfl (by kernel_rfl) typ_int (.cons (g:=[.int]) rfl (by kernel_rfl) typ_int (.cons (g:=[.int]) rfl (by kernel_rfl) typ_int .nil))))
theorem typS_Mem:Typ Tryz.prog 147 [.row 200 shMem] := .slice Tryz.underlying147 (by kernel_rfl) (by decide) typ_Mem
theorem dec_Mem {g:List Cel} (h:CnfL shMem g):∃x:MmT,g=x.cells:=by
 obtain ⟨c0,_,rfl,k0,h⟩:=cnfL_cons.1 h
 obtain ⟨c1,_,rfl,k1,h⟩:=cnfL_cons.1 h
 obtain ⟨c2,_,rfl,k2,h⟩:=cnfL_cons.1 h
 obtain ⟨c3,_,rfl,k3,h⟩:=cnfL_cons.1 h
 obtain rfl:=cnfL_nil.1 h
 obtain ⟨a0,rfl⟩:=cnf_int.1 k0
 obtain ⟨a1,rfl⟩:=cnf_int.1 k1
 obtain ⟨a2,rfl⟩:=cnf_int.1 k2
 obtain ⟨a3,rfl⟩:=cnf_int.1 k3
 exact ⟨⟨a0,a1,a2,a3⟩,rfl⟩
def shModule:List Shp:=[.row 155 shSignal,.row 196 shAssign,.row 202 shInst,.row 200 shMem]
theorem typ_Module:Typ Tryz.prog 149 shModule := .of_flds Tryz.underlying149 (by kernel_rfl) (.cons (g:=[.row 155 shSignal]) rfl (by kernel_rfl) typS_Signal (.cons (g:=[.row 196 shAssign]) rfl (by kernel_rfl) typS_Assign (.cons (g:=[.row 202 shInst]) rfl (by kernel_rfl) typS_Inst (.cons (g:=[.row 200 shMem]) rfl (by kernel_rfl) typS_Mem .nil))))
theorem typS_Module:Typ Tryz.prog 41 [.row 108 shModule] := .slice Tryz.underlying41 (by kernel_rfl) (by decide) typ_Module
theorem dec_Module {g:List Cel} (h:CnfL shModule g):∃x:MdT,g=x.cells:=by
 obtain ⟨c0,_,rfl,k0,h⟩:=cnfL_cons.1 h
 obtain ⟨c1,_,rfl,k1,h⟩:=cnfL_cons.1 h
 obtain ⟨c2,_,rfl,k2,h⟩:=cnfL_cons.1 h
 obtain ⟨c3,_,rfl,k3,h⟩:=cnfL_cons.1 h
 obtain rfl:=cnfL_nil.1 h
 obtain ⟨a0,rfl,_⟩:=cnf_dec (cells:=SgT.cells) (fun g hg=>dec_Signal hg) k0
 obtain ⟨a1,rfl,_⟩:=cnf_dec (cells:=AsT.cells) (fun g hg=>dec_Assign hg) k1
 obtain ⟨a2,rfl,_⟩:=cnf_dec (cells:=InT.cells) (fun g hg=>dec_Inst hg) k2
 obtain ⟨a3,rfl,_⟩:=cnf_dec (cells:=MmT.cells) (fun g hg=>dec_Mem hg) k3
 exact ⟨⟨a0,a1,a2,a3⟩,rfl⟩
def shDesign:List Shp:=[.row 108 shModule]
theorem typ_Design:Typ Tryz.prog 43 shDesign := .of_flds Tryz.underlying43 (by kernel_rfl) (.cons (g:=[.row 108 shModule]) rfl (by kernel_rfl) typS_Module .nil)
theorem dec_Design {g:List Cel} (h:CnfL shDesign g):∃x:DsT,g=x.cells:=by
 obtain ⟨c0,_,rfl,k0,h⟩:=cnfL_cons.1 h
 obtain rfl:=cnfL_nil.1 h
 obtain ⟨a0,rfl,_⟩:=cnf_dec (cells:=MdT.cells) (fun g hg=>dec_Module hg) k0
 exact ⟨⟨a0⟩,rfl⟩
section
variable {H:Type} {enc:TypeId × Value→H} {W:World} {b0 base:Nat} {held:Bool}
/-- A design that comes in. -/
theorem open_des {v:Value} {d:DataW H} {p:List MemPlace} (hv:Value.okWide Tryz.prog W .any b0 43 v) (h:DataW.Trod enc Tryz.prog W base (fun _=>true) held 43 v d p) :
  ∃(x:DsT) (MA:Option Addr) (mn mc:Nat),v = .agg #[.slice MA mn mc]∧RdC W W.heap.size (celMd x.mods) (.slice MA mn mc)∧BdL x.cells:=by
 obtain ⟨cs,ces,rfl,h1,h2⟩:=open_typ Tryz.underlying43 typ_Design hv h
 have hb:=h1.bd
 obtain ⟨x,rfl⟩:=dec_Design h1
 unfold DsT.cells at h2
 obtain ⟨v0,_,rfl,r0,h2⟩:=rdL_cons.1 h2
 obtain rfl:=rdL_nil.1 h2
 obtain ⟨MA,mn,mc,rfl⟩:=rdC_slice (e:=108) (s:=4) r0
 exact ⟨x,MA,mn,mc,rfl,r0,hb⟩
end
end Go.Proofs.YtlinbdkbbhpdpaaGreat
