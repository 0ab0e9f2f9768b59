/- Boards: what they read as, what the call owns of them; the laws' helpers on boards. -/
import Derived.Test.YtofihjoanjkdmaaGreatCopies
import Derived.Test.YtofihjoanjkdmaaGreatLayRd
namespace Go.Proofs.YtofihjoanjkdmaaGreat
set_option maxRecDepth 100000
open Go.RowKit
structure Bd where
 dev:Dev
 frames:List (List Int)
 state:List Int
 phase:Int
 reg:Reg
 saved:List (List Int)
structure Sl3 where
 A1:Option Addr
 n1:Nat
 c1:Nat
 A2:Option Addr
 n2:Nat
 c2:Nat
 A3:Option Addr
 n3:Nat
 c3:Nat
structure pW (w:World) (b:Bd) (s:Sl3):Prop where
 frames:rD w s.A1 s.n1 b.frames
 state:dA w s.A2 s.n2 b.state
 saved:rD w s.A3 s.n3 b.saved
theorem pW.below {w w':World} {b:Bd} {s:Sl3} (h:pW w b s) (hb:Below w.heap.size w w'):pW w' b s:=⟨h.frames.below hb,h.state.below hb,h.saved.below hb⟩
def Ap (l1 h1 l2 h2:Nat):Prop:=h1<=l2∨h2<=l1
structure ym (w:World) (b:Bd) (s:Sl3) (lo hi l1 h1 l2 h2 l3 h3:Nat):Prop where
 frames:je l1 h1 w s.A1 s.n1 s.c1 b.frames
 state:Own l2 w s.A2 s.n2 s.c2 b.state
 lies:pQ s.A2 l2 h2
 saved:je l3 h3 w s.A3 s.n3 s.c3 b.saved
 a12:Ap l1 h1 l2 h2
 a13:Ap l1 h1 l3 h3
 a23:Ap l2 h2 l3 h3
 in1:lo<=l1/\h1<=hi
 in2:lo<=l2/\h2<=hi
 in3:lo<=l3/\h3<=hi
def jT (lo hi:Nat) (w:World) (b:Bd) (s:Sl3):Prop:=∃l1 h1 l2 h2 l3 h3,ym w b s lo hi l1 h1 l2 h2 l3 h3
theorem pQ.own {A:Option Addr} {lo hi base:Nat} {w:World} {n c:Nat} {xs:List Int} (l:pQ A lo hi) (_:Own base w A n c xs):pQ A lo hi:=l
theorem jT.rd {lo hi:Nat} {w:World} {b:Bd} {s:Sl3} (h:jT lo hi w b s):pW w b s:=by
 obtain ⟨l1,h1,l2,h2,l3,h3,hb⟩:=h
 exact ⟨hb.frames.rd,hb.state.rd,hb.saved.rd⟩
theorem jT.below {lo hi:Nat} {w w':World} {b:Bd} {s:Sl3} (h:jT lo hi w b s) (hb:Below w.heap.size w w'):jT lo hi w' b s:=by
 obtain ⟨l1,h1,l2,h2,l3,h3,k⟩:=h
 exact ⟨l1,h1,l2,h2,l3,h3,k.frames.below hb,k.state.below hb,k.lies,k.saved.below hb,k.a12,k.a13,k.a23,k.in1,k.in2,k.in3⟩
theorem jT.widen {lo hi lo' hi':Nat} {w:World} {b:Bd} {s:Sl3} (h:jT lo hi w b s) (e1:lo'<=lo) (e2:hi<=hi'):jT lo' hi' w b s:=by
 obtain ⟨l1,h1,l2,h2,l3,h3,k⟩:=h
 have i1:=k.in1
 have i2:=k.in2
 have i3:=k.in3
 exact ⟨l1,h1,l2,h2,l3,h3,k.frames,k.state,k.lies,k.saved,k.a12,k.a13,k.a23,⟨by omega,by omega⟩,⟨by omega,by omega⟩,⟨by omega,by omega⟩⟩
theorem jT.drewd {lo hi:Nat} {w:World} {b:Bd} {s:Sl3} (h:jT lo hi w b s):jT lo hi w.drew b s:=by
 obtain ⟨l1,h1,l2,h2,l3,h3,k⟩:=h
 exact ⟨l1,h1,l2,h2,l3,h3,k.frames.drewd,k.state.drewd,k.lies,k.saved.drewd,k.a12,k.a13,k.a23,k.in1,k.in2,k.in3⟩
open Go.ChangeShapes Go.WideShapes Go.ChangeAt
section
variable {H:Type} {enc:TypeId × Value→H} {W:World} {b0 base:Nat} {spare:Nat→Bool} {held:Bool}
end
theorem yn {w:World} {B e s cap:Nat}:RdC w B (.row e s []) (.slice none 0 cap):=by
 rw [kC]
 exact ⟨none,0,cap,rfl,by simp,.inl rfl⟩
section
variable {H:Type} {enc:TypeId × Value→H} {W:World} {b0 base:Nat} {held:Bool}
theorem xC {a:Addr} {v:Value} (h:W.cell? a=some v):∃b o,a=⟨b,o,none⟩/\b<W.heap.size:=by
 obtain ⟨b,o,s⟩:=a
 have hs:s=none:=World.cell?_spot h
 subst hs
 exact ⟨b,o,rfl,yl h⟩
theorem yo (b o i j:Nat):((⟨b,o,none⟩:Addr).add i).add j=⟨b,o+(i+j),none⟩:=by rw [Go.Deep.add_add,Addr.add_lit]
end
inductive Shp where
 | int
 | row (e:Nat) (f:List Shp)
mutual
def Cnf:Shp→Cel→Prop
 | .int,c=>∃x,c = .int x
 | .row e f,c=>∃gs:List (List Cel),c = .row e f.length gs.flatten/\gs.length<=maxLen/\∀g∈gs,iJ f g
def iJ:List Shp→List Cel→Prop
 | [],cs=>cs=[]
 | s :: ss,cs=>∃c cs',cs=c :: cs'/\Cnf s c/\iJ ss cs'
end
theorem gL {c:Cel}:Cnf .int c↔∃x,c = .int x:=by rw [Cnf]
theorem pX {e:Nat} {f:List Shp} {c:Cel}:Cnf (.row e f) c↔∃gs:List (List Cel),c = .row e f.length gs.flatten/\gs.length<=maxLen/\∀g∈gs,iJ f g:=by rw [Cnf]
theorem fH {cs:List Cel}:iJ [] cs↔cs=[]:=by rw [iJ]
theorem bG {s:Shp} {ss:List Shp} {cs:List Cel}:iJ (s :: ss) cs↔∃c cs',cs=c :: cs'/\Cnf s c/\iJ ss cs':=by rw [iJ]
theorem iJ.len:∀{ss:List Shp} {cs:List Cel},iJ ss cs→cs.length=ss.length
 | [],cs,h=>by rw [fH] at h;subst h;rfl
 | s :: ss,cs,h=>by
  rw [bG] at h
  obtain ⟨c,cs',rfl,_,h2⟩:=h
  rw [List.length_cons,List.length_cons,iJ.len h2]
theorem iJ.append:∀{ss:List Shp} {cs:List Cel} {ss':List Shp} {cs':List Cel},iJ ss cs→iJ ss' cs'→iJ (ss++ss') (cs++cs')
 | [],cs,ss',cs',h,h'=>by rw [fH] at h;subst h;exact h'
 | s :: ss,cs,ss',cs',h,h'=>by
  rw [bG] at h
  obtain ⟨c,cs'',rfl,h1,h2⟩:=h
  rw [List.cons_append,bG]
  exact ⟨c,cs''++cs',rfl,h1,h2.append h'⟩
theorem rq {w:World} {B:Nat}:∀{cs:List Cel} {vs:List Value} {cs':List Cel} {vs':List Value},RdL w B cs vs→RdL w B cs' vs'→RdL w B (cs++cs') (vs++vs')
 | [],vs,cs',vs',h,h'=>by rw [jQ] at h;subst h;exact h'
 | c :: cs,vs,cs',vs',h,h'=>by
  rw [eB] at h
  obtain ⟨v,vs'',rfl,h1,h2⟩:=h
  rw [List.cons_append,eB]
  exact ⟨v,vs''++vs',rfl,h1,rq h2 h'⟩
theorem wN {w:World} {B:Nat}:∀{cs:List Cel} {vs:List Value},RdL w B cs vs→vs.length=cs.length
 | [],vs,h=>by rw [jQ] at h;subst h;rfl
 | c :: cs,vs,h=>by
  rw [eB] at h
  obtain ⟨v,vs',rfl,_,h2⟩:=h
  rw [List.length_cons,List.length_cons,wN h2]
theorem xx {w:World} {B:Nat} {G:Nat→List Cel} {V:Nat→List Value} {n:Nat} (h:∀i,i<n→RdL w B (G i) (V i)):RdL w B ((List.range n).flatMap G) ((List.range n).flatMap V):=by
 induction n with
 | zero=>simp [jQ]
 | succ n ih =>
  rw [List.range_succ,List.flatMap_append,List.flatMap_append,List.flatMap_singleton,List.flatMap_singleton]
  exact rq (ih fun i hi=>h i (by omega)) (h n (by omega))
theorem jU {α:Type} {V:Nat→List α} {s:Nat}:∀{n:Nat},(∀i,i<n→(V i).length=s)→((List.range n).flatMap V).length=n * s
 | 0,_=>by rw [Nat.zero_mul];rfl
 | n+1,h=>by rw [List.range_succ,List.flatMap_append,List.flatMap_singleton,List.length_append,jU fun i hi=>h i (by omega),h n (by omega),Nat.succ_mul]
theorem nL {α:Type} {V:Nat→List α} {s:Nat}:∀{n:Nat},(∀i,i<n→(V i).length=s)→∀{q r j:Nat},q<n→r<s→q * s+r=j→((List.range n).flatMap V)[j]?=(V q)[r]?
 | 0,_,q,_,_,hq,_,_=>by omega
 | n+1,h,q,r,j,hq,hr,hj=>by
  have hl:((List.range n).flatMap V).length=n * s:=jU fun i hi=>h i (by omega)
  rw [List.range_succ,List.flatMap_append,List.flatMap_singleton]
  rcases Nat.lt_or_ge q n with hqn|hqn
  ·have hm:=Nat.mul_le_mul_right s (show q+1<=n by omega)
   rw [Nat.succ_mul] at hm
   rw [List.getElem?_append_left (by rw [hl];omega)]
   exact nL (fun i hi=>h i (by omega)) hqn hr hj
  ·obtain rfl:q=n:=by omega
   rw [List.getElem?_append_right (by rw [hl];omega),hl,show j - q * s=r by omega]
inductive Typ (P:Program):TypeId→List Shp→Prop
 | int {t:TypeId} (h:P.underlying t=some (.int .i64)):Typ P t [.int]
 | slice {t e:TypeId} {e':Nat} {f:List Shp} (h:P.underlying t=some (.slice e)) (hc:P.cellsOf e=f.length) (h0:0<f.length) (he:Typ P e f):Typ P t [.row e' f]
 | struct {t:TypeId} {fs:Array Field} {gs:List (List Shp)} (h:P.underlying t=some (.struct fs)) (hl:gs.length=fs.size) (hc:P.cellsOf t=gs.flatten.length)
   (ho:∀(i:Nat) (F:Field) (g:List Shp),fs[i]?=some F→gs[i]?=some g→F.offset=(gs.take i).flatten.length) (hf:∀(i:Nat) (F:Field) (g:List Shp),fs[i]?=some F→gs[i]?=some g→P.cellsOf F.type=g.length)
   (ht:∀(i:Nat) (F:Field) (g:List Shp),fs[i]?=some F→gs[i]?=some g→Typ P F.type g):Typ P t gs.flatten
theorem rF {w:World} {B:Nat}:∀{gs:List (List Shp)} {cs:List Value},cs.length=gs.flatten.length→(∀(i:Nat) (g:List Shp),gs[i]?=some g→∃ces,iJ g ces/\RdL w B ces ((cs.drop (gs.take i).flatten.length).take g.length))→∃ces,iJ gs.flatten ces/\RdL w B ces cs
 | [],cs,hl,_=>⟨[],by rw [List.flatten_nil,fH],by rw [jQ];exact List.eq_nil_of_length_eq_zero hl⟩
 | g :: gs,cs,hl,h=>by
  rw [List.flatten_cons,List.length_append] at hl
  obtain ⟨c0,h0,r0⟩:=h 0 g rfl
  obtain ⟨c1,h1,r1⟩:=rF (gs:=gs) (cs:=cs.drop g.length) (w:=w) (B:=B) (by rw [List.length_drop];omega) fun i g' hg=>by
   have:=h (i+1) g' hg
   rwa [List.take_succ_cons,List.flatten_cons,List.length_append,←List.drop_drop] at this
  refine ⟨c0++c1,by rw [List.flatten_cons];exact h0.append h1,?_⟩
  rw [List.take_zero,List.flatten_nil,List.length_nil,List.drop_zero] at r0
  rw [←List.take_append_drop g.length cs]
  exact rq r0 r1
inductive xD (P:Program):Nat→List Field→List Shp→Prop
 | nil {o:Nat}:xD P o [] []
 | cons {o:Nat} {F:Field} {Fs:List Field} {g ss:List Shp} (ho:F.offset=o) (hc:P.cellsOf F.type=g.length) (ht:Typ P F.type g) (hs:xD P (o+g.length) Fs ss):xD P o (F :: Fs) (g++ss)
theorem xD.groups {P:Program} {o:Nat} {Fs:List Field} {ss:List Shp} (h:xD P o Fs ss):∃gs:List (List Shp),ss=gs.flatten/\gs.length=Fs.length/\∀(i:Nat) (F:Field) (g:List Shp),Fs[i]?=some F→gs[i]?=some g→F.offset=o+(gs.take i).flatten.length/\P.cellsOf F.type=g.length/\Typ P F.type g:=by
 induction h with
 | nil=>exact ⟨[],rfl,rfl,fun i F g h=>by simp at h⟩
 | @cons o F Fs g ss ho hc ht hs ih =>
  obtain ⟨gs,rfl,hl,hx⟩:=ih
  refine ⟨g :: gs,rfl,by rw [List.length_cons,List.length_cons,hl],fun i F' g' h1 h2=>?_⟩
  rcases i with _|i
  ·rw [List.getElem?_cons_zero,Option.some.injEq] at h1 h2
   subst h1 h2
   exact ⟨ho,hc,ht⟩
  ·rw [List.getElem?_cons_succ] at h1 h2
   obtain ⟨k1,k2,k3⟩:=hx i F' g' h1 h2
   exact ⟨by rw [k1,List.take_succ_cons,List.flatten_cons,List.length_append];omega,k2,k3⟩
theorem Typ.of_flds {P:Program} {t:TypeId} {fs:Array Field} {sh:List Shp} (h:P.underlying t=some (.struct fs)) (hc:P.cellsOf t=sh.length) (hf:xD P 0 fs.toList sh):Typ P t sh:=by
 obtain ⟨gs,rfl,hl,hx⟩:=hf.groups
 have hx':∀(i:Nat) (F:Field) (g:List Shp),fs[i]?=some F→gs[i]?=some g→F.offset=0+(gs.take i).flatten.length/\P.cellsOf F.type=g.length/\Typ P F.type g:=fun i F g h1 h2=>hx i F g (by rw [Array.getElem?_toList];exact h1) h2
 exact .struct h (by rw [hl,Array.length_toList]) hc (fun i F g h1 h2=>by rw [(hx' i F g h1 h2).1,Nat.zero_add]) (fun i F g h1 h2=>(hx' i F g h1 h2).2.1) fun i F g h1 h2=>(hx' i F g h1 h2).2.2
theorem lI {α:Type} {cells:α→List Cel} {e:Nat} {f:List Shp} {c:Cel} (hd:∀g,iJ f g→∃x,g=cells x) (h:Cnf (.row e f) c):∃xs:List α,c = .row e f.length (xs.flatMap cells)/\xs.length<=maxLen:=by
 obtain ⟨gs,rfl,hm,hg⟩:=pX.1 h
 have:∀gs:List (List Cel),(∀g∈gs,iJ f g)→∃xs:List α,gs.flatten=xs.flatMap cells/\xs.length=gs.length:=by
  intro gs
  induction gs with
  | nil=>exact fun _=>⟨[],rfl,rfl⟩
  | cons g gs ih =>
   intro hg
   obtain ⟨x,hx⟩:=hd g (hg g (by simp))
   obtain ⟨xs,h1,h2⟩:=ih fun g' h'=>hg g' (by simp [h'])
   exact ⟨x :: xs,by rw [List.flatten_cons,List.flatMap_cons,h1,hx],by rw [List.length_cons,List.length_cons,h2]⟩
 obtain ⟨xs,h1,h2⟩:=this gs hg
 exact ⟨xs,by rw [h1],by omega⟩
theorem lh {c:Cel} (h:Cnf (.row 3 [.int]) c):∃xs:List Int,c=aJ xs/\xs.length<=maxLen:=by
 obtain ⟨xs,rfl,hm⟩:=lI (cells:=fun x:Int=>[Cel.int x]) (fun g hg=>by
  obtain ⟨c,cs,rfl,h1,h2⟩:=bG.1 hg
  obtain ⟨x,rfl⟩:=gL.1 h1
  rw [fH.1 h2]
  exact ⟨x,rfl⟩) h
 exact ⟨xs,by unfold aJ;rw [List.map_eq_flatMap];rfl,hm⟩
theorem jD:Typ Tryz.prog 3 [.int] := .int Tryz.underlying3
theorem lm:Typ Tryz.prog 26 [.row 3 [.int]] := .slice Tryz.underlying26 (by kernel_rfl) (by decide) jD
section
variable {H:Type} {enc:TypeId × Value→H} {W:World} {base:Nat} {held:Bool}
theorem xy {P:Program} {t:TypeId} {sh:List Shp} (hT:Typ P t sh):∀{fuel:Nat} {cs:List Value} {y:DataW H × List MemPlace},DataW.trod enc P W base (fun _=>true) held fuel t cs=some y→∃ces,iJ sh ces/\RdL W W.heap.size ces cs:=by
 induction hT with
 | int h =>
  intro fuel cs y hy
  obtain ⟨n,rfl,_,_⟩:=DataW.trod_int h hy
  refine ⟨[.int n],?_,?_⟩
  ·rw [bG];exact ⟨_,[],rfl,gL.2 ⟨n,rfl⟩,fH.2 rfl⟩
  ·rw [eB];exact ⟨_,[],rfl,iQ.2 rfl,jQ.2 rfl⟩
 | @slice t e e' f h hc h0 he ih =>
  intro fuel cs y hy
  rcases Go.Deep.open_slice h hy with ⟨rfl,_⟩|⟨a,len,cap,m,n,D,Pl,rfl,_,hl,hm,hmm,_,hx⟩
  ·refine ⟨[.row e' f.length []],?_,?_⟩
   ·rw [bG];exact ⟨_,[],rfl,pX.2 ⟨[],rfl,by simp,by simp⟩,fH.2 rfl⟩
   ·rw [eB];exact ⟨_,[],rfl,yn,jQ.2 rfl⟩
  ·simp only [if_true] at hmm
   rw [hc] at hx
   have hone:∀i,i<len→∃z:List Cel × List Value,iJ f z.1/\RdL W W.heap.size z.1 z.2/\∀j,j<f.length→W.cell? ((a.add (i * f.length)).add j)=z.2[j]?:=fun i hi=>by
    obtain ⟨cs',h1,h2⟩:=hx i (by omega)
    obtain ⟨g,k1,k2⟩:=ih h2
    exact ⟨(g,cs'),k1,k2,(World.cells?_some h1).2.2⟩
   have:Inhabited (List Cel × List Value):=⟨([],[])⟩
   obtain ⟨z,hz⟩:=Go.Deep.choose_lt hone
   have hfl:((List.range len).map fun i=>(z i).1).flatten=(List.range len).flatMap fun i=>(z i).1:=by rw [List.flatMap_def]
   have hlen:((List.range len).flatMap fun i=>(z i).1).length=len * f.length:=jU fun i hi=>(hz i hi).1.len
   refine ⟨[.row e' f.length ((List.range len).map fun i=>(z i).1).flatten],?_,?_⟩
   ·rw [bG]
    exact ⟨_,[],rfl,pX.2 ⟨_,rfl,by simp;omega,fun g hg=>by
     obtain ⟨i,hi,rfl⟩:=List.mem_map.1 hg
     exact (hz i (List.mem_range.1 hi)).1⟩,fH.2 rfl⟩
   ·rw [eB]
    refine ⟨_,[],rfl,?_,jQ.2 rfl⟩
    rw [kC,hfl]
    refine ⟨_,len,cap,rfl,hlen,?_⟩
    rcases Nat.eq_zero_or_pos len with h0'|h0'
    ·subst h0';exact .inl rfl
    ·right
     have hzl:∀i,i<len→(z i).2.length=f.length:=fun i hi=>by rw [wN (hz i hi).2.1,(hz i hi).1.len]
     have g0:=(hz 0 h0').2.2 0 h0
     rw [Nat.zero_mul,List.getElem?_eq_getElem (by rw [hzl 0 h0'];exact h0),Go.Deep.add_add] at g0
     obtain ⟨b,o,ha,hb⟩:=xC g0
     have ha2:a=⟨b,o,none⟩:=by
      obtain ⟨b',o',s'⟩:=a
      simp only [Addr.add,Nat.add_zero] at ha
      exact ha
     subst ha2
     simp only [yo] at hz
     refine ⟨b,o,(List.range len).flatMap fun i=>(z i).2,rfl,hb,fun j u hu=>?_,xx fun i hi=>(hz i hi).2.1⟩
     have hvl:((List.range len).flatMap fun i=>(z i).2).length=len * f.length:=jU hzl
     have hj:j<len * f.length:=by
      rcases Nat.lt_or_ge j (len * f.length) with h|h
      ·exact h
      ·rw [List.getElem?_eq_none (by rw [hvl];exact h)] at hu;cases hu
     have hq:j / f.length<len:=Nat.div_lt_of_lt_mul (by rw [Nat.mul_comm];exact hj)
     have hr:j % f.length<f.length:=Nat.mod_lt _ h0
     have hg:=(hz (j / f.length) hq).2.2 (j % f.length) hr
     have hjj:j / f.length * f.length+j % f.length=j:=by rw [Nat.mul_comm];exact Nat.div_add_mod j f.length
     rw [hjj] at hg
     rw [hg,←hu]
     exact (nL (fun i hi=>hzl i hi) hq hr hjj).symm
 | @struct t fs gs h hl hc ho hf ht ih =>
  intro fuel cs y hy
  obtain ⟨xs,n,_,_,hcl,hxl,hxs⟩:=DataW.trod_struct h hy
  refine rF (by rw [hcl,hc]) fun i g hg=>?_
  have hi:i<fs.size:=by rw [←hl];exact (List.getElem?_eq_some_iff.1 hg).1
  have hF:fs[i]?=some fs[i]:=Array.getElem?_eq_getElem hi
  have h1:=hxs i _ hF
  rw [ho i _ g hF hg,hf i _ g hF hg,List.getElem?_eq_getElem (by rw [hxl];exact hi)] at h1
  exact ih i _ g hF hg h1
theorem xz {P:Program} {b0:Nat} {t:TypeId} {fs:Array Field} {sh:List Shp} {v:Value} {d:DataW H} {p:List MemPlace} (ht:P.underlying t=some (.struct fs)) (hT:Typ P t sh) (hv:Value.okWide P W .any b0 t v) (h:DataW.Trod enc P W base (fun _=>true) held t v d p) :
  ∃(cs:List Value) (ces:List Cel),v = .agg cs.toArray/\iJ sh ces/\RdL W W.heap.size ces cs:=by
 obtain ⟨cs,rfl,hsz⟩:=okWide_struct ht hv
 obtain ⟨fuel,hf⟩:=h
 obtain ⟨ces,h1,h2⟩:=xy hT hf
 exact ⟨cs.toList,ces,by simp,h1,by simpa [Value.cells] using h2⟩
end
mutual
def szC:Cel→Nat
 | .int _=>0
 | .row _ s cs=>cs.length / s+ae cs
def ae:List Cel→Nat
 | []=>0
 | c :: cs=>szC c+ae cs
end
mutual
def BdC:Cel→Prop
 | .int _=>True
 | .row _ s cs=>cs.length / s<=maxLen/\BdL cs
def BdL:List Cel→Prop
 | []=>True
 | c :: cs=>BdC c/\BdL cs
end
theorem fZ (x:Int):szC (.int x)=0:=by rw [szC]
theorem wO (e s:Nat) (cs:List Cel):szC (.row e s cs)=cs.length / s+ae cs:=by rw [szC]
theorem bK:ae []=0:=by rw [ae]
theorem az (c:Cel) (cs:List Cel):ae (c :: cs)=szC c+ae cs:=by rw [ae]
theorem lJ {e s:Nat} {cs:List Cel}:BdC (.row e s cs)↔cs.length / s<=maxLen/\BdL cs:=by rw [BdC]
theorem yt {x:Int}:BdC (.int x):=by rw [BdC];trivial
theorem nu:BdL []:=by rw [BdL];trivial
theorem iK {c:Cel} {cs:List Cel}:BdL (c :: cs)↔BdC c/\BdL cs:=by rw [BdL]
theorem fo:∀(cs ds:List Cel),ae (cs++ds)=ae cs+ae ds
 | [],ds=>by rw [bK,Nat.zero_add];rfl
 | c :: cs,ds=>by rw [List.cons_append,az,az,fo cs ds,Nat.add_assoc]
theorem nV:∀{cs ds:List Cel},BdL (cs++ds)↔BdL cs/\BdL ds
 | [],ds=>by rw [List.nil_append];exact ⟨fun h=>⟨nu,h⟩,fun h=>h.2⟩
 | c :: cs,ds=>by rw [List.cons_append,iK,iK,nV,and_assoc]
theorem xE (xs:List Int):ae (xs.map .int)=0:=by
 induction xs with
 | nil=>rw [List.map_nil,bK]
 | cons x xs ih=>rw [List.map_cons,az,fZ,ih]
theorem lu (xs:List Int):szC (aJ xs)=xs.length:=by unfold aJ;rw [wO,xE,List.length_map,Nat.div_one,Nat.add_zero]
theorem ru {α:Type} {cells:α→List Cel} {s:Nat} (hf:∀x,(cells x).length=s):∀xs:List α,(xs.flatMap cells).length=xs.length * s
 | []=>by rw [List.flatMap_nil,List.length_nil,List.length_nil,Nat.zero_mul]
 | x :: xs=>by rw [List.flatMap_cons,List.length_append,hf,ru hf xs,List.length_cons,Nat.succ_mul,Nat.add_comm]
theorem cK {α:Type} {cells:α→List Cel} {s e:Nat} (hf:∀x,(cells x).length=s) (hs:0<s) (xs:List α):szC (.row e s (xs.flatMap cells))=xs.length+ae (xs.flatMap cells):=by
 rw [wO,ru hf,Nat.mul_div_cancel _ hs]
theorem kW {α:Type} {cells:α→List Cel} {s e:Nat} (hf:∀x,(cells x).length=s) (hs:0<s) {xs:List α}:BdC (.row e s (xs.flatMap cells))↔xs.length<=maxLen/\BdL (xs.flatMap cells):=by
 rw [lJ,ru hf,Nat.mul_div_cancel _ hs]
theorem lv {α:Type} {cells:α→List Cel}:∀{xs:List α},BdL (xs.flatMap cells)↔∀x∈xs,BdL (cells x)
 | []=>by rw [List.flatMap_nil];exact ⟨fun _ x hx=>by simp at hx,fun _=>nu⟩
 | x :: xs=>by
  rw [List.flatMap_cons,nV,lv]
  constructor
  ·rintro ⟨h1,h2⟩ y hy
   rcases List.mem_cons.1 hy with rfl|hy
   ·exact h1
   ·exact h2 y hy
  ·exact fun h=>⟨h x (by simp),fun y hy=>h y (by simp [hy])⟩
theorem kN {α:Type} {cells:α→List Cel} {xs:List α} {k:Nat} {z:α} (h:k<xs.length):ae ((xs.take (k+1)).flatMap cells)=ae ((xs.take k).flatMap cells)+ae (cells (xs[k]?.getD z)):=by
 rw [List.take_add_one,List.getElem?_eq_getElem h,List.flatMap_append,fo,Option.getD_some]
 simp
theorem iR {α:Type} {cells:α→List Cel} (xs:List α) (k:Nat):ae ((xs.take k).flatMap cells)<=ae (xs.flatMap cells):=by
 have h:xs.flatMap cells=(xs.take k).flatMap cells++(xs.drop k).flatMap cells:=by rw [←List.flatMap_append,List.take_append_drop]
 rw [h,fo]
 omega
theorem gU {α:Type} {cells:α→List Cel} {xs:List α} {k:Nat} {z:α} (h:k<xs.length):ae (cells (xs[k]?.getD z))<=ae (xs.flatMap cells):=by
 have h1:=kN (cells:=cells) (z:=z) h
 have h2:=iR (cells:=cells) xs (k+1)
 omega
mutual
theorem Cnf.bd:∀{sh:Shp} {c:Cel},Cnf sh c→BdC c
 | .int,c,h=>by
  obtain ⟨x,rfl⟩:=gL.1 h
  exact yt
 | .row e f,c,h=>by
  obtain ⟨gs,rfl,hm,hg⟩:=pX.1 h
  have hgl:∀gs:List (List Cel),(∀g∈gs,iJ f g)→gs.flatten.length=gs.length * f.length/\BdL gs.flatten:=by
   intro gs
   induction gs with
   | nil=>exact fun _=>⟨by simp,nu⟩
   | cons g gs ih =>
    intro hg
    obtain ⟨h1,h2⟩:=ih fun g' h'=>hg g' (by simp [h'])
    have h3:=hg g (by simp)
    exact ⟨by rw [List.flatten_cons,List.length_append,h1,h3.len,List.length_cons,Nat.succ_mul,Nat.add_comm],by rw [List.flatten_cons,nV];exact ⟨iJ.bd h3,h2⟩⟩
  obtain ⟨h1,h2⟩:=hgl gs hg
  rw [lJ,h1]
  refine ⟨?_,h2⟩
  rcases Nat.eq_zero_or_pos f.length with h0|h0
  ·rw [h0,Nat.div_zero];exact Nat.zero_le _
  ·rw [Nat.mul_div_cancel _ h0];exact hm
theorem iJ.bd:∀{ss:List Shp} {cs:List Cel},iJ ss cs→BdL cs
 | [],cs,h=>by
  obtain rfl:=fH.1 h
  exact nu
 | s :: ss,cs,h=>by
  obtain ⟨c,cs',rfl,h1,h2⟩:=bG.1 h
  exact iK.2 ⟨Cnf.bd h1,iJ.bd h2⟩
end
def ai.cells (l:ai):List Cel:=[.int l.inputs,dE l.seqs,dR l.luts,aJ l.outs]
def Lay.cells (x:Lay):List Cel:=x.net.cells++[bE x.blocks,bD x.conns,aJ x.place,bR x.routes]
def uE:List Shp:=[.row 3 [.int],.int]
theorem yu:Typ Tryz.prog 184 uE := .of_flds Tryz.underlying184 (by kernel_rfl) (.cons (g:=[.row 3 [.int]]) rfl (by kernel_rfl) lm (.cons (g:=[.int]) rfl (by kernel_rfl) jD .nil))
theorem x8:Typ Tryz.prog 25 [.row 96 uE] := .slice Tryz.underlying25 (by kernel_rfl) (by decide) yu
theorem yw {g:List Cel} (h:iJ uE g):∃x:Lt,g=x.cells:=by
 obtain ⟨c0,_,rfl,k0,h⟩:=bG.1 h
 obtain ⟨c1,_,rfl,k1,h⟩:=bG.1 h
 obtain rfl:=fH.1 h
 obtain ⟨a0,rfl,_⟩:=lh k0
 obtain ⟨a1,rfl⟩:=gL.1 k1
 exact ⟨⟨a0,a1⟩,rfl⟩
def uF:List Shp:=[.int,.int,.row 3 [.int]]
theorem yx:Typ Tryz.prog 182 uF := .of_flds Tryz.underlying182 (by kernel_rfl) (.cons (g:=[.int]) rfl (by kernel_rfl) jD (.cons (g:=[.int]) rfl (by kernel_rfl) jD (.cons (g:=[.row 3 [.int]]) rfl (by kernel_rfl) lm .nil)))
theorem x9:Typ Tryz.prog 24 [.row 91 uF] := .slice Tryz.underlying24 (by kernel_rfl) (by decide) yx
theorem yz {g:List Cel} (h:iJ uF g):∃x:Sq,g=x.cells:=by
 obtain ⟨c0,_,rfl,k0,h⟩:=bG.1 h
 obtain ⟨c1,_,rfl,k1,h⟩:=bG.1 h
 obtain ⟨c2,_,rfl,k2,h⟩:=bG.1 h
 obtain rfl:=fH.1 h
 obtain ⟨a0,rfl⟩:=gL.1 k0
 obtain ⟨a1,rfl⟩:=gL.1 k1
 obtain ⟨a2,rfl,_⟩:=lh k2
 exact ⟨⟨a0,a1,a2⟩,rfl⟩
def qC:List Shp:=[.int,.row 91 uF,.row 96 uE,.row 3 [.int]]
theorem vK:Typ Tryz.prog 28 qC := .of_flds Tryz.underlying28 (by kernel_rfl) (.cons (g:=[.int]) rfl (by kernel_rfl) jD (.cons (g:=[.row 91 uF]) rfl (by kernel_rfl) x9 (.cons (g:=[.row 96 uE]) rfl (by kernel_rfl) x8 (.cons (g:=[.row 3 [.int]]) rfl (by kernel_rfl) lm .nil))))
def yA:List Shp:=[.int,.int]
theorem zK:Typ Tryz.prog 245 yA := .of_flds Tryz.underlying245 (by kernel_rfl) (.cons (g:=[.int]) rfl (by kernel_rfl) jD (.cons (g:=[.int]) rfl (by kernel_rfl) jD .nil))
theorem y8:Typ Tryz.prog 145 [.row 94 yA] := .slice Tryz.underlying145 (by kernel_rfl) (by decide) zK
theorem zL {g:List Cel} (h:iJ yA g):∃x:LeT,g=x.cells:=by
 obtain ⟨c0,_,rfl,k0,h⟩:=bG.1 h
 obtain ⟨c1,_,rfl,k1,h⟩:=bG.1 h
 obtain rfl:=fH.1 h
 obtain ⟨a0,rfl⟩:=gL.1 k0
 obtain ⟨a1,rfl⟩:=gL.1 k1
 exact ⟨⟨a0,a1⟩,rfl⟩
def ny:List Shp:=[.int,.int,.row 94 yA]
theorem xF:Typ Tryz.prog 147 ny := .of_flds Tryz.underlying147 (by kernel_rfl) (.cons (g:=[.int]) rfl (by kernel_rfl) jD (.cons (g:=[.int]) rfl (by kernel_rfl) jD (.cons (g:=[.row 94 yA]) rfl (by kernel_rfl) y8 .nil)))
theorem vL:Typ Tryz.prog 29 [.row 89 ny] := .slice Tryz.underlying29 (by kernel_rfl) (by decide) xF
theorem xG {g:List Cel} (h:iJ ny g):∃x:Blk,g=x.cells:=by
 obtain ⟨c0,_,rfl,k0,h⟩:=bG.1 h
 obtain ⟨c1,_,rfl,k1,h⟩:=bG.1 h
 obtain ⟨c2,_,rfl,k2,h⟩:=bG.1 h
 obtain rfl:=fH.1 h
 obtain ⟨a0,rfl⟩:=gL.1 k0
 obtain ⟨a1,rfl⟩:=gL.1 k1
 obtain ⟨a2,rfl,_⟩:=lI (cells:=LeT.cells) (fun g hg=>zL hg) k2
 exact ⟨⟨a0,a1,a2⟩,rfl⟩
def qD:List Shp:=[.int,.int]
theorem wP:Typ Tryz.prog 149 qD := .of_flds Tryz.underlying149 (by kernel_rfl) (.cons (g:=[.int]) rfl (by kernel_rfl) jD (.cons (g:=[.int]) rfl (by kernel_rfl) jD .nil))
theorem yB:Typ Tryz.prog 150 [.row 100 qD] := .slice Tryz.underlying150 (by kernel_rfl) (by decide) wP
theorem y9 {g:List Cel} (h:iJ qD g):∃x:bQ,g=x.cells:=by
 obtain ⟨c0,_,rfl,k0,h⟩:=bG.1 h
 obtain ⟨c1,_,rfl,k1,h⟩:=bG.1 h
 obtain rfl:=fH.1 h
 obtain ⟨a0,rfl⟩:=gL.1 k0
 obtain ⟨a1,rfl⟩:=gL.1 k1
 exact ⟨⟨a0,a1⟩,rfl⟩
def qE:List Shp:=[.int]++qD++[.row 100 qD]
theorem yC:Typ Tryz.prog 152 qE := .of_flds Tryz.underlying152 (by kernel_rfl) (.cons (g:=[.int]) rfl (by kernel_rfl) jD (.cons (g:=qD) rfl (by kernel_rfl) wP (.cons (g:=[.row 100 qD]) rfl (by kernel_rfl) yB .nil)))
theorem xH:Typ Tryz.prog 30 [.row 158 qE] := .slice Tryz.underlying30 (by kernel_rfl) (by decide) yC
theorem yD {g:List Cel} (h:iJ qE g):∃x:Cn,g=x.cells:=by
 obtain ⟨c0,_,rfl,k0,h⟩:=bG.1 h
 obtain ⟨c1,_,rfl,k1,h⟩:=bG.1 h
 obtain ⟨c2,_,rfl,k2,h⟩:=bG.1 h
 obtain ⟨c3,_,rfl,k3,h⟩:=bG.1 h
 obtain rfl:=fH.1 h
 obtain ⟨a0,rfl⟩:=gL.1 k0
 obtain ⟨a1,rfl⟩:=gL.1 k1
 obtain ⟨a2,rfl⟩:=gL.1 k2
 obtain ⟨a3,rfl,_⟩:=lI (cells:=bQ.cells) (fun g hg=>y9 hg) k3
 exact ⟨⟨a0,⟨a1,a2⟩,a3⟩,rfl⟩
def nz:List Shp:=[.row 3 [.int],.row 3 [.int]]
theorem xI:Typ Tryz.prog 154 nz := .of_flds Tryz.underlying154 (by kernel_rfl) (.cons (g:=[.row 3 [.int]]) rfl (by kernel_rfl) lm (.cons (g:=[.row 3 [.int]]) rfl (by kernel_rfl) lm .nil))
theorem vM:Typ Tryz.prog 31 [.row 114 nz] := .slice Tryz.underlying31 (by kernel_rfl) (by decide) xI
theorem xJ {g:List Cel} (h:iJ nz g):∃x:Rou,g=x.cells:=by
 obtain ⟨c0,_,rfl,k0,h⟩:=bG.1 h
 obtain ⟨c1,_,rfl,k1,h⟩:=bG.1 h
 obtain rfl:=fH.1 h
 obtain ⟨a0,rfl,_⟩:=lh k0
 obtain ⟨a1,rfl,_⟩:=lh k1
 exact ⟨⟨a0,a1⟩,rfl⟩
def uG:List Shp:=qC++[.row 89 ny,.row 158 qE,.row 3 [.int],.row 114 nz]
theorem vN:Typ Tryz.prog 33 uG := .of_flds Tryz.underlying33 (by kernel_rfl) (.cons (g:=qC) rfl (by kernel_rfl) vK (.cons (g:=[.row 89 ny]) rfl (by kernel_rfl) vL (.cons (g:=[.row 158 qE]) rfl (by kernel_rfl) xH (.cons (g:=[.row 3 [.int]]) rfl (by kernel_rfl) lm (.cons (g:=[.row 114 nz]) rfl (by kernel_rfl) vM .nil)))))
theorem vO {g:List Cel} (h:iJ uG g):∃x:Lay,g=x.cells:=by
 obtain ⟨c0,_,rfl,k0,h⟩:=bG.1 h
 obtain ⟨c1,_,rfl,k1,h⟩:=bG.1 h
 obtain ⟨c2,_,rfl,k2,h⟩:=bG.1 h
 obtain ⟨c3,_,rfl,k3,h⟩:=bG.1 h
 obtain ⟨c4,_,rfl,k4,h⟩:=bG.1 h
 obtain ⟨c5,_,rfl,k5,h⟩:=bG.1 h
 obtain ⟨c6,_,rfl,k6,h⟩:=bG.1 h
 obtain ⟨c7,_,rfl,k7,h⟩:=bG.1 h
 obtain rfl:=fH.1 h
 obtain ⟨a0,rfl⟩:=gL.1 k0
 obtain ⟨a1,rfl,_⟩:=lI (cells:=Sq.cells) (fun g hg=>yz hg) k1
 obtain ⟨a2,rfl,_⟩:=lI (cells:=Lt.cells) (fun g hg=>yw hg) k2
 obtain ⟨a3,rfl,_⟩:=lh k3
 obtain ⟨a4,rfl,_⟩:=lI (cells:=Blk.cells) (fun g hg=>xG hg) k4
 obtain ⟨a5,rfl,_⟩:=lI (cells:=Cn.cells) (fun g hg=>yD hg) k5
 obtain ⟨a6,rfl,_⟩:=lh k6
 obtain ⟨a7,rfl,_⟩:=lI (cells:=Rou.cells) (fun g hg=>xJ hg) k7
 exact ⟨⟨⟨a0,a1,a2,a3⟩,a4,a5,a6,a7⟩,rfl⟩
section
variable {H:Type} {enc:TypeId × Value→H} {W:World} {b0 base:Nat} {held:Bool}
theorem yE {v:Value} {d:DataW H} {p:List MemPlace} (hv:Value.okWide Tryz.prog W .any b0 33 v) (h:DataW.Trod enc Tryz.prog W base (fun _=>true) held 33 v d p) :
  ∃(x:Lay) (SA LA OA BA CA PA RA:Option Addr) (sn sc ln lc on oc bn bc cn cc pn pc rn rc:Nat),v = .agg #[.int .i64 x.net.inputs,.slice SA sn sc,.slice LA ln lc,.slice OA on oc,.slice BA bn bc,.slice CA cn cc,.slice PA pn pc,.slice RA rn rc] /\
   fI W x.net SA LA OA sn sc ln lc on oc/\RdC W W.heap.size (bE x.blocks) (.slice BA bn bc)/\RdC W W.heap.size (bD x.conns) (.slice CA cn cc)/\RdC W W.heap.size (aJ x.place) (.slice PA pn pc)/\RdC W W.heap.size (bR x.routes) (.slice RA rn rc)/\BdL x.cells:=by
 obtain ⟨cs,ces,rfl,h1,h2⟩:=xz Tryz.underlying33 vN hv h
 have hb:=h1.bd
 obtain ⟨x,rfl⟩:=vO h1
 unfold Lay.cells ai.cells at h2
 obtain ⟨v0,_,rfl,r0,h2⟩:=eB.1 h2
 obtain ⟨v1,_,rfl,r1,h2⟩:=eB.1 h2
 obtain ⟨v2,_,rfl,r2,h2⟩:=eB.1 h2
 obtain ⟨v3,_,rfl,r3,h2⟩:=eB.1 h2
 obtain ⟨v4,_,rfl,r4,h2⟩:=eB.1 h2
 obtain ⟨v5,_,rfl,r5,h2⟩:=eB.1 h2
 obtain ⟨v6,_,rfl,r6,h2⟩:=eB.1 h2
 obtain ⟨v7,_,rfl,r7,h2⟩:=eB.1 h2
 obtain rfl:=jQ.1 h2
 rw [iQ] at r0
 subst r0
 obtain ⟨SA,sn,sc,rfl⟩:=eO (e:=91) (s:=3) r1
 obtain ⟨LA,ln,lc,rfl⟩:=eO (e:=96) (s:=2) r2
 obtain ⟨OA,on,oc,rfl⟩:=eO (e:=3) (s:=1) r3
 obtain ⟨BA,bn,bc,rfl⟩:=eO (e:=89) (s:=3) r4
 obtain ⟨CA,cn,cc,rfl⟩:=eO (e:=158) (s:=4) r5
 obtain ⟨PA,pn,pc,rfl⟩:=eO (e:=3) (s:=1) r6
 obtain ⟨RA,rn,rc,rfl⟩:=eO (e:=114) (s:=2) r7
 exact ⟨x,SA,LA,OA,BA,CA,PA,RA,sn,sc,ln,lc,on,oc,bn,bc,cn,cc,pn,pc,rn,rc,rfl,⟨r1,r2,r3⟩,r4,r5,r6,r7,hb⟩
end
end Go.Proofs.YtofihjoanjkdmaaGreat
