/- Boards: what they read as, what the call owns of them; the laws' helpers on boards. -/
import Derived.Test.YtofihjoanjkdmaaGreatCopies
import Derived.Test.YtofihjoanjkdmaaGreatLayRd
namespace Go.Proofs.YtofihjoanjkdmaaGreat
set_option maxRecDepth 100000
open Go.RowKit
structure Bd where
 dev:Dev
 frames:List (List Int)
 state:List Int
 phase:Int
 reg:Reg
 saved:List (List Int)
structure Sl3 where
 A1:Oh
 n1:Nat
 c1:Nat
 A2:Oh
 n2:Nat
 c2:Nat
 A3:Oh
 n3:Nat
 c3:Nat
structure yV(w:World)(b:Bd)(s:Sl3):Prop where
 frames:BQ w s.A1 s.n1 b.frames
 state:bT w s.A2 s.n2 b.state
 saved:BQ w s.A3 s.n3 b.saved
theorem yV.below{w w':World}{b:Bd}{s:Sl3}(h:yV w b s)(hb:Below w.heap.size w w'):yV w' b s:=⟨h.frames.below hb,h.state.below hb,h.saved.below hb⟩
def Ap(l1 h1 l2 h2:Nat):Prop:=h1<=l2∨h2<=l1
structure M7(w:World)(b:Bd)(s:Sl3)(lo hi l1 h1 l2 h2 l3 h3:Nat):Prop where
 frames:mJ l1 h1 w s.A1 s.n1 s.c1 b.frames
 state:Own l2 w s.A2 s.n2 s.c2 b.state
 lies:yR s.A2 l2 h2
 saved:mJ l3 h3 w s.A3 s.n3 s.c3 b.saved
 a12:Ap l1 h1 l2 h2
 a13:Ap l1 h1 l3 h3
 a23:Ap l2 h2 l3 h3
 in1:lo<=l1/\h1<=hi
 in2:lo<=l2/\h2<=hi
 in3:lo<=l3/\h3<=hi
def lV(lo hi:Nat)(w:World)(b:Bd)(s:Sl3):Prop:=∃l1 h1 l2 h2 l3 h3,M7 w b s lo hi l1 h1 l2 h2 l3 h3
theorem yR.own{A:Oh}{lo hi base:Nat}{w:World}{n c:Nat}{xs:List Int}(l:yR A lo hi)(_:Own base w A n c xs):yR A lo hi:=l
theorem lV.rd{lo hi:Nat}{w:World}{b:Bd}{s:Sl3}(h:lV lo hi w b s):yV w b s:=by
 obtain⟨l1,h1,l2,h2,l3,h3,hb⟩:=h;exact⟨hb.frames.rd,hb.state.rd,hb.saved.rd⟩
theorem lV.below{lo hi:Nat}{w w':World}{b:Bd}{s:Sl3}(h:lV lo hi w b s)(hb:Below w.heap.size w w'):lV lo hi w' b s:=by
 obtain⟨l1,h1,l2,h2,l3,h3,k⟩:=h;exact⟨l1,h1,l2,h2,l3,h3,k.frames.below hb,k.state.below hb,k.lies,k.saved.below hb,k.a12,k.a13,k.a23,k.in1,k.in2,k.in3⟩
theorem lV.widen{lo hi j g:Nat}{w:World}{b:Bd}{s:Sl3}(h:lV lo hi w b s)(e1:j<=lo)(e2:hi<=g):lV j g w b s:=by
 obtain⟨l1,h1,l2,h2,l3,h3,k⟩:=h;have z:=k.in1;have q:=k.in2;have u:=k.in3;exact⟨l1,h1,l2,h2,l3,h3,k.frames,k.state,k.lies,k.saved,k.a12,k.a13,k.a23,⟨by omega,by omega⟩,⟨by omega,by omega⟩,⟨by omega,by omega⟩⟩
theorem lV.drewd{lo hi:Nat}{w:World}{b:Bd}{s:Sl3}(h:lV lo hi w b s):lV lo hi w.drew b s:=by
 obtain⟨l1,h1,l2,h2,l3,h3,k⟩:=h;exact⟨l1,h1,l2,h2,l3,h3,k.frames.drewd,k.state.drewd,k.lies,k.saved.drewd,k.a12,k.a13,k.a23,k.in1,k.in2,k.in3⟩
open Go.ChangeShapes Go.WideShapes Go.ChangeAt
section
variable {H:Type} {enc:TypeId×Value→H} {W:World} {b0 base:Nat} {spare:Nat→Bool} {held:Bool}
end
theorem M8{w:World}{B e s cap:Nat}:RdC w B (.row e s []) (.slice none 0 cap):=by
 rw[kQ];exact⟨none,0,cap,rfl,by simp,.inl rfl⟩
section
variable {H:Type} {enc:TypeId×Value→H} {W:World} {b0 base:Nat} {held:Bool}
theorem Jw{a:Addr}{v:Value}(h:W.cell? a=some v):∃b o,a=⟨b,o,none⟩/\b<W.heap.size:=by
 obtain⟨b,o,s⟩:=a;have hs:s=none:=World.cell?_spot h;subst hs;exact⟨b,o,rfl,M3 h⟩
theorem M9(b o i j:Nat):((⟨b,o,none⟩:Addr).add i).add j=⟨b,o+(i+j),none⟩:=by rw[Go.Deep.add_add,Addr.add_lit]
end
inductive Shp where
 | int
 | row (e:Nat) (f:List Shp)
mutual
def Cnf:Shp→Cel→Prop
 | .int,c=>∃x,c=.int x
 | .row e f,c=>∃gs:List (List Cel),c=.row e f.length gs.flatten/\gs.length<=maxLen/\∀g∈gs,lJ f g
def lJ:List Shp→List Cel→Prop
 | [],cs=>cs=[]
 | s::ss,cs=>∃c g,cs=c::g/\Cnf s c/\lJ ss g
end
theorem rA{c:Cel}:Cnf .int c↔∃x,c=.int x:=by rw[Cnf]
theorem yX{e:Nat}{f:List Shp}{c:Cel}:Cnf (.row e f) c↔∃gs:List (List Cel),c=.row e f.length gs.flatten/\gs.length<=maxLen/\∀g∈gs,lJ f g:=by rw[Cnf]
theorem jX{cs:List Cel}:lJ [] cs↔cs=[]:=by rw[lJ]
theorem fJ{s:Shp}{ss:List Shp}{cs:List Cel}:lJ (s::ss) cs↔∃c g,cs=c::g/\Cnf s c/\lJ ss g:=by rw[lJ]
theorem lJ.len:∀{ss:List Shp} {cs:List Cel},lJ ss cs→cs.length=ss.length
 | [],cs,h=>by rw[jX]at h;subst h;rfl
 | s::ss,cs,h=>by
  rw[fJ]at h;obtain⟨c,g,rfl,_,h2⟩:=h;rw[List.length_cons,List.length_cons,lJ.len h2]
theorem lJ.append:∀{ss:List Shp} {cs:List Cel} {j:List Shp} {g:List Cel},lJ ss cs→lJ j g→lJ (ss++j) (cs++g)
 | [],cs,j,g,h,u=>by rw[jX]at h;subst h;exact u
 | s::ss,cs,j,g,h,u=>by
  rw[fJ]at h;obtain⟨c,q,rfl,h1,h2⟩:=h;rw[List.cons_append,fJ];exact⟨c,q++g,rfl,h1,h2.append u⟩
theorem yY{w:World}{B:Nat}:∀{cs:List Cel} {vs:List Value} {j:List Cel} {g:List Value},RdL w B cs vs→RdL w B j g→RdL w B (cs++j) (vs++g)
 | [],vs,j,g,h,u=>by rw[jG]at h;subst h;exact u
 | c::cs,vs,j,g,h,u=>by
  rw[gU]at h;obtain⟨v,q,rfl,h1,h2⟩:=h;rw[List.cons_append,gU];exact⟨v,q++g,rfl,h1,yY h2 u⟩
theorem JW{w:World}{B:Nat}:∀{cs:List Cel} {vs:List Value},RdL w B cs vs→vs.length=cs.length
 | [],vs,h=>by rw[jG]at h;subst h;rfl
 | c::cs,vs,h=>by
  rw[gU]at h;obtain⟨v,g,rfl,_,h2⟩:=h;rw[List.length_cons,List.length_cons,JW h2]
theorem LH{w:World}{B:Nat}{G:Nat→List Cel}{V:Nat→List Value}{n:Nat}(h:∀i,i<n→RdL w B (G i) (V i)):RdL w B ((List.range n).flatMap G) ((List.range n).flatMap V):=by
 induction n with
 | zero=>simp[jG]
 | succ n ih =>
  rw[List.range_succ,List.flatMap_append,List.flatMap_append,List.flatMap_singleton,List.flatMap_singleton];exact yY (ih fun i hi=>h i (by omega)) (h n (by omega))
theorem lZ{α:Type}{V:Nat→List α}{s:Nat}:∀{n:Nat},(∀i,i<n→(V i).length=s)→((List.range n).flatMap V).length=n*s
 | 0,_=>by rw[Nat.zero_mul];rfl
 | n+1,h=>by rw[List.range_succ,List.flatMap_append,List.flatMap_singleton,List.length_append,lZ fun i hi=>h i (by omega),h n (by omega),Nat.succ_mul]
theorem uf{α:Type}{V:Nat→List α}{s:Nat}:∀{n:Nat},(∀i,i<n→(V i).length=s)→∀{q r j:Nat},q<n→r<s→q*s+r=j→((List.range n).flatMap V)[j]?=(V q)[r]?
 | 0,_,q,_,_,hq,_,_=>by omega
 | n+1,h,q,r,j,hq,hr,hj=>by
  have hl:((List.range n).flatMap V).length=n*s:=lZ fun i hi=>h i (by omega);rw[List.range_succ,List.flatMap_append,List.flatMap_singleton]
  rcases Nat.lt_or_ge q n with g|g
  ·have hm:=Nat.mul_le_mul_right s (show q+1<=n by omega);rw[Nat.succ_mul]at hm;rw[List.getElem?_append_left (by rw[hl];omega)];exact uf (fun i hi=>h i (by omega)) g hr hj
  obtain rfl:q=n:=by omega
  rw[List.getElem?_append_right (by rw[hl];omega),hl,show j-q*s=r by omega]
inductive Typ(P:Program):TypeId→List Shp→Prop
 | int {t:TypeId} (h:P.underlying t=some (.int .i64)):Typ P t [.int]
 | slice {t e:TypeId} {e':Nat} {f:List Shp} (h:P.underlying t=some (.slice e)) (hc:P.cellsOf e=f.length) (h0:0<f.length) (he:Typ P e f):Typ P t [.row e' f]
 | struct {t:TypeId} {fs:Array Field} {gs:List (List Shp)} (h:P.underlying t=some (.struct fs)) (hl:gs.length=fs.size) (hc:P.cellsOf t=gs.flatten.length)
   (ho:∀(i:Nat) (F:Field) (g:List Shp),fs[i]?=some F→gs[i]?=some g→F.offset=(gs.take i).flatten.length) (hf:∀(i:Nat) (F:Field) (g:List Shp),fs[i]?=some F→gs[i]?=some g→P.cellsOf F.type=g.length)
   (ht:∀(i:Nat) (F:Field) (g:List Shp),fs[i]?=some F→gs[i]?=some g→Typ P F.type g):Typ P t gs.flatten
theorem BV{w:World}{B:Nat}:∀{gs:List (List Shp)} {cs:List Value},cs.length=gs.flatten.length→(∀(i:Nat) (g:List Shp),gs[i]?=some g→∃ces,lJ g ces/\RdL w B ces ((cs.drop (gs.take i).flatten.length).take g.length))→∃ces,lJ gs.flatten ces/\RdL w B ces cs
 | [],cs,hl,_=>⟨[],by rw[List.flatten_nil,jX],by rw[jG];exact List.eq_nil_of_length_eq_zero hl⟩
 | g::gs,cs,hl,h=>by
  rw[List.flatten_cons,List.length_append]at hl;obtain⟨c0,h0,j⟩:=h 0 g rfl
  obtain⟨c1,h1,q⟩:=BV (gs:=gs) (cs:=cs.drop g.length) (w:=w) (B:=B) (by rw[List.length_drop];omega) fun i u hg=>by
   have:=h (i+1) u hg;rwa[List.take_succ_cons,List.flatten_cons,List.length_append,←List.drop_drop]at this
  refine⟨c0++c1,by rw[List.flatten_cons];exact h0.append h1,?_⟩;rw[List.take_zero,List.flatten_nil,List.length_nil,List.drop_zero]at j;rw[←List.take_append_drop g.length cs];exact yY j q
inductive Jy(P:Program):Nat→List Field→List Shp→Prop
 | nil {o:Nat}:Jy P o [] []
 | cons {o:Nat} {F:Field} {Fs:List Field} {g ss:List Shp} (ho:F.offset=o) (hc:P.cellsOf F.type=g.length) (ht:Typ P F.type g) (hs:Jy P (o+g.length) Fs ss):Jy P o (F::Fs) (g++ss)
theorem Jy.groups{P:Program}{o:Nat}{Fs:List Field}{ss:List Shp}(h:Jy P o Fs ss):∃gs:List (List Shp),ss=gs.flatten/\gs.length=Fs.length/\∀(i:Nat) (F:Field) (g:List Shp),Fs[i]?=some F→gs[i]?=some g→F.offset=o+(gs.take i).flatten.length/\P.cellsOf F.type=g.length/\Typ P F.type g:=by
 induction h with
 | nil=>exact⟨[],rfl,rfl,fun i F g h=>by simp at h⟩
 | @cons o F Fs g ss ho hc ht hs ih =>
  obtain⟨gs,rfl,hl,hx⟩:=ih;refine⟨g::gs,rfl,by rw[List.length_cons,List.length_cons,hl],fun i F' j h1 h2=>?_⟩
  rcases i with _|i
  ·rw[List.getElem?_cons_zero,Option.some.injEq]at h1 h2;subst h1 h2;exact⟨ho,hc,ht⟩
  rw[List.getElem?_cons_succ]at h1 h2;obtain⟨k1,k2,k3⟩:=hx i F' j h1 h2;exact⟨by rw[k1,List.take_succ_cons,List.flatten_cons,List.length_append];omega,k2,k3⟩
theorem Typ.of_flds{P:Program}{t:TypeId}{fs:Array Field}{q:List Shp}(h:P.underlying t=some (.struct fs))(hc:P.cellsOf t=q.length)(hf:Jy P 0 fs.toList q):Typ P t q:=by
 obtain⟨gs,rfl,hl,hx⟩:=hf.groups;have j:∀(i:Nat) (F:Field) (g:List Shp),fs[i]?=some F→gs[i]?=some g→F.offset=0+(gs.take i).flatten.length/\P.cellsOf F.type=g.length/\Typ P F.type g:=fun i F g h1 h2=>hx i F g (by rw[Array.getElem?_toList];exact h1) h2;exact .struct h (by rw[hl,Array.length_toList]) hc (fun i F g h1 h2=>by rw[(j i F g h1 h2).1,Nat.zero_add]) (fun i F g h1 h2=>(j i F g h1 h2).2.1) fun i F g h1 h2=>(j i F g h1 h2).2.2
theorem DR{α:Type}{cells:α→List Cel}{e:Nat}{f:List Shp}{c:Cel}(hd:∀g,lJ f g→∃x,g=cells x)(h:Cnf (.row e f) c):∃xs:List α,c=.row e f.length (xs.flatMap cells)/\xs.length<=maxLen:=by
 obtain⟨gs,rfl,hm,hg⟩:=yX.1 h
 have:∀gs:List (List Cel),(∀g∈gs,lJ f g)→∃xs:List α,gs.flatten=xs.flatMap cells/\xs.length=gs.length:=by
  intro gs
  induction gs with
  | nil=>exact fun _=>⟨[],rfl,rfl⟩
  | cons g gs ih =>
   intro hg;obtain⟨x,hx⟩:=hd g (hg g (by simp));obtain⟨xs,h1,h2⟩:=ih fun q j=>hg q (by simp[j]);exact⟨x::xs,by rw[List.flatten_cons,List.flatMap_cons,h1,hx],by rw[List.length_cons,List.length_cons,h2]⟩
 obtain⟨xs,h1,h2⟩:=this gs hg;exact⟨xs,by rw[h1],by omega⟩
theorem zM{c:Cel}(h:Cnf (.row 3 [.int]) c):∃xs:List Int,c=aI xs/\xs.length<=maxLen:=by
 obtain⟨xs,rfl,hm⟩:=DR (cells:=fun x:Int=>[Cel.int x]) (fun g hg=>by
  obtain⟨c,cs,rfl,h1,h2⟩:=fJ.1 hg;obtain⟨x,rfl⟩:=rA.1 h1;rw[jX.1 h2]
  exact⟨x,rfl⟩) h
 exact⟨xs,by unfold aI;rw[List.map_eq_flatMap];rfl,hm⟩
theorem vk:Typ Tryz.prog 3 [.int] := .int Tryz.underlying3
theorem zN:Typ Tryz.prog 26 [.row 3 [.int]] := .slice Tryz.underlying26 (by kernel_rfl) (by decide) vk
section
variable {H:Type} {enc:TypeId×Value→H} {W:World} {base:Nat} {held:Bool}
theorem LJ{P:Program}{t:TypeId}{sh:List Shp}(hT:Typ P t sh):∀{q:Nat} {cs:List Value} {y:DataW H×List MemPlace},DataW.trod enc P W base (fun _=>true) held q t cs=some y→∃ces,lJ sh ces/\RdL W W.heap.size ces cs:=by
 induction hT with
 | int h =>
  intro q cs y R;obtain⟨n,rfl,_,_⟩:=DataW.trod_int h R;refine⟨[.int n],?_,?_⟩
  ·rw[fJ];exact⟨_,[],rfl,rA.2 ⟨n,rfl⟩,jX.2 rfl⟩
  ·rw[gU];exact⟨_,[],rfl,jJ.2 rfl,jG.2 rfl⟩
 | @slice t e e' f h hc h0 he ih =>
  intro q cs y R
  rcases Go.Deep.open_slice h R with⟨rfl,_⟩|⟨a,len,cap,m,n,D,Pl,rfl,_,hl,hm,U,_,hx⟩
  ·refine⟨[.row e' f.length []],?_,?_⟩
   ·rw[fJ];exact⟨_,[],rfl,yX.2 ⟨[],rfl,by simp,by simp⟩,jX.2 rfl⟩
   rw[gU];exact⟨_,[],rfl,M8,jG.2 rfl⟩
  ·simp only[if_true]at U;rw[hc]at hx
   have Q:∀i,i<len→∃z:List Cel×List Value,lJ f z.1/\RdL W W.heap.size z.1 z.2/\∀j,j<f.length→W.cell? ((a.add (i*f.length)).add j)=z.2[j]?:=fun i hi=>by
    obtain⟨ag,h1,h2⟩:=hx i (by omega);obtain⟨g,k1,k2⟩:=ih h2;exact⟨(g,ag),k1,k2,(World.cells?_some h1).2.2⟩
   have:Inhabited (List Cel×List Value):=⟨([],[])⟩;obtain⟨z,G⟩:=Go.Deep.choose_lt Q;have ad:((List.range len).map fun i=>(z i).1).flatten=(List.range len).flatMap fun i=>(z i).1:=by rw[List.flatMap_def]
   have J:((List.range len).flatMap fun i=>(z i).1).length=len*f.length:=lZ fun i hi=>(G i hi).1.len;refine⟨[.row e' f.length ((List.range len).map fun i=>(z i).1).flatten],?_,?_⟩
   ·rw[fJ]
    exact⟨_,[],rfl,yX.2 ⟨_,rfl,by simp;omega,fun g hg=>by
     obtain⟨i,hi,rfl⟩:=List.mem_map.1 hg
     exact(G i (List.mem_range.1 hi)).1⟩,jX.2 rfl⟩
   ·rw[gU];refine⟨_,[],rfl,?_,jG.2 rfl⟩;rw[kQ,ad];refine⟨_,len,cap,rfl,J,?_⟩
    rcases Nat.eq_zero_or_pos len with B|B
    ·subst B;exact .inl rfl
    ·right;have I:∀i,i<len→(z i).2.length=f.length:=fun i hi=>by rw[JW (G i hi).2.1,(G i hi).1.len]
     have g0:=(G 0 B).2.2 0 h0;rw[Nat.zero_mul,List.getElem?_eq_getElem (by rw[I 0 B];exact h0),Go.Deep.add_add]at g0;obtain⟨b,o,ha,hb⟩:=Jw g0
     have af:a=⟨b,o,none⟩:=by
      obtain⟨b',o',s'⟩:=a;simp only[Addr.add,Nat.add_zero]at ha;exact ha
     subst af;simp only[M9]at G;refine⟨b,o,(List.range len).flatMap fun i=>(z i).2,rfl,hb,fun j u Z=>?_,LH fun i hi=>(G i hi).2.1⟩;have ae:((List.range len).flatMap fun i=>(z i).2).length=len*f.length:=lZ I
     have hj:j<len*f.length:=by
      rcases Nat.lt_or_ge j (len*f.length)with h|h
      ·exact h
      rw[List.getElem?_eq_none (by rw[ae];exact h)]at Z;cases Z
     have hq:j/f.length<len:=Nat.div_lt_of_lt_mul (by rw[Nat.mul_comm];exact hj);have hr:j%f.length<f.length:=Nat.mod_lt _ h0;have hg:=(G (j/f.length) hq).2.2 (j%f.length) hr;have K:j/f.length*f.length+j%f.length=j:=by rw[Nat.mul_comm];exact Nat.div_add_mod j f.length
     rw[K]at hg;rw[hg,←Z]
     exact(uf (fun i hi=>I i hi) hq hr K).symm
 | @struct t fs gs h hl hc ho hf ht ih =>
  intro q cs y R;obtain⟨xs,n,_,_,ah,V,Y⟩:=DataW.trod_struct h R;refine BV (by rw[ah,hc]) fun i g hg=>?_;have hi:i<fs.size:=by rw[←hl];exact(List.getElem?_eq_some_iff.1 hg).1
  have hF:fs[i]?=some fs[i]:=Array.getElem?_eq_getElem hi;have h1:=Y i _ hF;rw[ho i _ g hF hg,hf i _ g hF hg,List.getElem?_eq_getElem (by rw[V];exact hi)]at h1;exact ih i _ g hF hg h1
theorem LK{P:Program}{b0:Nat}{t:TypeId}{fs:Array Field}{g:List Shp}{v:Value}{d:DataW H}{p:List MemPlace}(ht:P.underlying t=some (.struct fs))(q:Typ P t g)(z:Value.okWide P W .any b0 t v)(h:DataW.Trod enc P W base (fun _=>true) held t v d p) :
  ∃(cs:List Value) (ces:List Cel),v=.agg cs.toArray/\lJ g ces/\RdL W W.heap.size ces cs:=by
 obtain⟨cs,rfl,u⟩:=okWide_struct ht z;obtain⟨j,hf⟩:=h;obtain⟨ces,h1,h2⟩:=LJ q hf;exact⟨cs.toList,ces,by simp,h1,by simpa [Value.cells]using h2⟩
end
mutual
def szC:Cel→Nat
 | .int _=>0
 | .row _ s cs=>cs.length/s+dI cs
def dI:List Cel→Nat
 | []=>0
 | c::cs=>szC c+dI cs
end
mutual
def BdC:Cel→Prop
 | .int _=>True
 | .row _ s cs=>cs.length/s<=maxLen/\BdL cs
def BdL:List Cel→Prop
 | []=>True
 | c::cs=>BdC c/\BdL cs
end
theorem gJ(x:Int):szC (.int x)=0:=by rw[szC]
theorem JX(e s:Nat)(cs:List Cel):szC (.row e s cs)=cs.length/s+dI cs:=by rw[szC]
theorem dG:dI []=0:=by rw[dI]
theorem dD(c:Cel)(cs:List Cel):dI (c::cs)=szC c+dI cs:=by rw[dI]
theorem vo{e s:Nat}{cs:List Cel}:BdC (.row e s cs)↔cs.length/s<=maxLen/\BdL cs:=by rw[BdC]
theorem NB{x:Int}:BdC (.int x):=by rw[BdC];trivial
theorem yZ:BdL []:=by rw[BdL];trivial
theorem qX{c:Cel}{cs:List Cel}:BdL (c::cs)↔BdC c/\BdL cs:=by rw[BdL]
theorem jY:∀(cs g:List Cel),dI (cs++g)=dI cs+dI g
 | [],g=>by rw[dG,Nat.zero_add];rfl
 | c::cs,g=>by rw[List.cons_append,dD,dD,jY cs g,Nat.add_assoc]
theorem uz:∀{cs g:List Cel},BdL (cs++g)↔BdL cs/\BdL g
 | [],g=>by rw[List.nil_append];exact⟨fun h=>⟨yZ,h⟩,fun h=>h.2⟩
 | c::cs,g=>by rw[List.cons_append,qX,qX,uz,and_assoc]
theorem Jz(xs:List Int):dI (xs.map .int)=0:=by
 induction xs with
 | nil=>rw[List.map_nil,dG]
 | cons x xs ih=>rw[List.map_cons,dD,gJ,ih]
theorem pE(xs:List Int):szC (aI xs)=xs.length:=by unfold aI;rw[JX,Jz,List.length_map,Nat.div_one,Nat.add_zero]
theorem bW{α:Type}{cells:α→List Cel}{s:Nat}(hf:∀x,(cells x).length=s):∀xs:List α,(xs.flatMap cells).length=xs.length*s
 | []=>by rw[List.flatMap_nil,List.length_nil,List.length_nil,Nat.zero_mul]
 | x::xs=>by rw[List.flatMap_cons,List.length_append,hf,bW hf xs,List.length_cons,Nat.succ_mul,Nat.add_comm]
theorem d9{α:Type}{cells:α→List Cel}{s e:Nat}(hf:∀x,(cells x).length=s)(hs:0<s)(xs:List α):szC (.row e s (xs.flatMap cells))=xs.length+dI (xs.flatMap cells):=by
 rw[JX,bW hf,Nat.mul_div_cancel _ hs]
theorem En{α:Type}{cells:α→List Cel}{s e:Nat}(hf:∀x,(cells x).length=s)(hs:0<s){xs:List α}:BdC (.row e s (xs.flatMap cells))↔xs.length<=maxLen/\BdL (xs.flatMap cells):=by
 rw[vo,bW hf,Nat.mul_div_cancel _ hs]
theorem zO{α:Type}{cells:α→List Cel}:∀{xs:List α},BdL (xs.flatMap cells)↔∀x∈xs,BdL (cells x)
 | []=>by rw[List.flatMap_nil];exact⟨fun _ x hx=>by simp at hx,fun _=>yZ⟩
 | x::xs=>by
  rw[List.flatMap_cons,uz,zO]
  constructor
  ·rintro⟨h1,h2⟩ y g
   rcases List.mem_cons.1 g with rfl|g
   ·exact h1
   exact h2 y g
  exact fun h=>⟨h x (by simp),fun y g=>h y (by simp[g])⟩
theorem wu{α:Type}{cells:α→List Cel}{xs:List α}{k:Nat}{z:α}(h:k<xs.length):dI ((xs.take (k+1)).flatMap cells)=dI ((xs.take k).flatMap cells)+dI (cells (xs[k]?.getD z)):=by
 rw[List.take_add_one,List.getElem?_eq_getElem h,List.flatMap_append,jY,Option.getD_some];simp
theorem rC{α:Type}{cells:α→List Cel}(xs:List α)(k:Nat):dI ((xs.take k).flatMap cells)<=dI (xs.flatMap cells):=by
 have h:xs.flatMap cells=(xs.take k).flatMap cells++(xs.drop k).flatMap cells:=by rw[←List.flatMap_append,List.take_append_drop]
 rw[h,jY];omega
theorem mK{α:Type}{cells:α→List Cel}{xs:List α}{k:Nat}{z:α}(h:k<xs.length):dI (cells (xs[k]?.getD z))<=dI (xs.flatMap cells):=by
 have h1:=wu (cells:=cells) (z:=z) h;have h2:=rC (cells:=cells) xs (k+1);omega
mutual
theorem Cnf.bd:∀{u:Shp} {c:Cel},Cnf u c→BdC c
 | .int,c,h=>by
  obtain⟨x,rfl⟩:=rA.1 h
  exact NB
 | .row e f,c,h=>by
  obtain⟨gs,rfl,hm,hg⟩:=yX.1 h
  have j:∀gs:List (List Cel),(∀g∈gs,lJ f g)→gs.flatten.length=gs.length*f.length/\BdL gs.flatten:=by
   intro gs
   induction gs with
   | nil=>exact fun _=>⟨by simp,yZ⟩
   | cons g gs ih =>
    intro hg;obtain⟨h1,h2⟩:=ih fun z q=>hg z (by simp[q]);have h3:=hg g (by simp);exact⟨by rw[List.flatten_cons,List.length_append,h1,h3.len,List.length_cons,Nat.succ_mul,Nat.add_comm],by rw[List.flatten_cons,uz];exact⟨lJ.bd h3,h2⟩⟩
  obtain⟨h1,h2⟩:=j gs hg;rw[vo,h1];refine⟨?_,h2⟩
  rcases Nat.eq_zero_or_pos f.length with h0|h0
  ·rw[h0,Nat.div_zero];exact Nat.zero_le _
  rw[Nat.mul_div_cancel _ h0];exact hm
theorem lJ.bd:∀{ss:List Shp} {cs:List Cel},lJ ss cs→BdL cs
 | [],cs,h=>by
  obtain rfl:=jX.1 h
  exact yZ
 | s::ss,cs,h=>by
  obtain⟨c,g,rfl,h1,h2⟩:=fJ.1 h;exact qX.2 ⟨Cnf.bd h1,lJ.bd h2⟩
end
def aU.cells(l:aU):List Cel:=[.int l.inputs,aY l.seqs,aj l.luts,aI l.outs]
def Lay.cells(x:Lay):List Cel:=x.net.cells++[aa x.blocks,bL x.conns,aI x.place,bM x.routes]
def Eo:List Shp:=[.row 3 [.int],.int]
theorem NC:Typ Tryz.prog 184 Eo := .of_flds Tryz.underlying184 (by kernel_rfl) (.cons (g:=[.row 3 [.int]]) rfl (by kernel_rfl) zN (.cons (g:=[.int]) rfl (by kernel_rfl) vk .nil))
theorem LM:Typ Tryz.prog 25 [.row 96 Eo] := .slice Tryz.underlying25 (by kernel_rfl) (by decide) NC
theorem ND{g:List Cel}(h:lJ Eo g):∃x:Lt,g=x.cells:=by
 obtain⟨c0,_,rfl,k0,h⟩:=fJ.1 h;obtain⟨c1,_,rfl,k1,h⟩:=fJ.1 h;obtain rfl:=jX.1 h;obtain⟨j,rfl,_⟩:=zM k0;obtain⟨q,rfl⟩:=rA.1 k1;exact⟨⟨j,q⟩,rfl⟩
def Ep:List Shp:=[.int,.int,.row 3 [.int]]
theorem NE:Typ Tryz.prog 182 Ep := .of_flds Tryz.underlying182 (by kernel_rfl) (.cons (g:=[.int]) rfl (by kernel_rfl) vk (.cons (g:=[.int]) rfl (by kernel_rfl) vk (.cons (g:=[.row 3 [.int]]) rfl (by kernel_rfl) zN .nil)))
theorem LP:Typ Tryz.prog 24 [.row 91 Ep] := .slice Tryz.underlying24 (by kernel_rfl) (by decide) NE
theorem NF{g:List Cel}(h:lJ Ep g):∃x:Sq,g=x.cells:=by
 obtain⟨c0,_,rfl,k0,h⟩:=fJ.1 h;obtain⟨c1,_,rfl,k1,h⟩:=fJ.1 h;obtain⟨c2,_,rfl,k2,h⟩:=fJ.1 h;obtain rfl:=jX.1 h;obtain⟨j,rfl⟩:=rA.1 k0;obtain⟨u,rfl⟩:=rA.1 k1;obtain⟨q,rfl,_⟩:=zM k2;exact⟨⟨j,u,q⟩,rfl⟩
def Es:List Shp:=[.int,.row 91 Ep,.row 96 Eo,.row 3 [.int]]
theorem IM:Typ Tryz.prog 28 Es := .of_flds Tryz.underlying28 (by kernel_rfl) (.cons (g:=[.int]) rfl (by kernel_rfl) vk (.cons (g:=[.row 91 Ep]) rfl (by kernel_rfl) LP (.cons (g:=[.row 96 Eo]) rfl (by kernel_rfl) LM (.cons (g:=[.row 3 [.int]]) rfl (by kernel_rfl) zN .nil))))
theorem IP{g:List Cel}(h:lJ Es g):∃x:aU,g=x.cells:=by
 obtain⟨c0,_,rfl,k0,h⟩:=fJ.1 h;obtain⟨c1,_,rfl,k1,h⟩:=fJ.1 h;obtain⟨c2,_,rfl,k2,h⟩:=fJ.1 h;obtain⟨c3,_,rfl,k3,h⟩:=fJ.1 h;obtain rfl:=jX.1 h;obtain⟨q,rfl⟩:=rA.1 k0;obtain⟨z,rfl,_⟩:=DR (cells:=Sq.cells) (fun g hg=>NF hg) k1;obtain⟨u,rfl,_⟩:=DR (cells:=Lt.cells) (fun g hg=>ND hg) k2;obtain⟨j,rfl,_⟩:=zM k3;exact⟨⟨q,z,u,j⟩,rfl⟩
section
variable {H:Type} {enc:TypeId×Value→H} {W:World} {b0 base:Nat} {held:Bool}
end
end Go.Proofs.YtofihjoanjkdmaaGreat
