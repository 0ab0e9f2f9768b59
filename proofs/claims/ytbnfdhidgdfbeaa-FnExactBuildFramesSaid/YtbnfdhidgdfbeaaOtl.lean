/- Tiles that come in: how they read. -/
import Derived.Test.YtbnfdhidgdfbeaaObn
import Derived.Test.YtbnfdhidgdfbeaaTileRd
namespace Go.Proofs.Ytbnfdhidgdfbeaa
set_option maxRecDepth 100000
open Go.RowKit Go.ChangeShapes Go.WideShapes Go.ChangeAt

theorem rdL_of {w:World} {B:Nat}:∀{cs:List Cel} {vs:List Value},vs.length=cs.length→(∀(j:Nat) c v,cs[j]?=some c→vs[j]?=some v→RdC w B c v)→RdL w B cs vs
 | [],vs,hl,_=>by rw [rdL_nil];exact List.eq_nil_of_length_eq_zero hl
 | c :: cs,[],hl,_=>by simp at hl
 | c :: cs,v :: vs,hl,h=>by
  rw [rdL_cons]
  exact ⟨v,vs,rfl,h 0 c v rfl rfl,rdL_of (by simpa using hl) fun j c' v' h1 h2=>h (j+1) c' v' (by simpa using h1) (by simpa using h2)⟩
theorem rdC_of {w:World} {B e s n cap:Nat} {cs:List Cel} {b o:Nat} (hl:cs.length=n * s) (hb:b<B) (f:Nat→Value) (hc:∀j,j<cs.length→w.cell? ⟨b,o+j,none⟩=some (f j)) (h:∀(j:Nat) c,cs[j]?=some c→RdC w B c (f j)) :
  RdC w B (.row e s cs) (.slice (some ⟨b,o,none⟩) n cap):=by
 have hg:∀(j:Nat) u,((List.range cs.length).map f)[j]?=some u→j<cs.length∧u=f j:=fun j u hu=>by
  rw [List.getElem?_map] at hu
  rcases Nat.lt_or_ge j cs.length with hj|hj
  ·rw [List.getElem?_range hj] at hu
   simp only [Option.map_some,Option.some.injEq] at hu
   exact ⟨hj,hu.symm⟩
  ·rw [List.getElem?_eq_none (by simpa using hj)] at hu
   cases hu
 rw [rdC_row]
 refine ⟨_,n,cap,rfl,hl,.inr ⟨b,o,(List.range cs.length).map f,rfl,hb,fun j u hu=>?_,rdL_of (by simp) fun j c v h1 h2=>?_⟩⟩
 ·obtain ⟨h1,rfl⟩:=hg j u hu
  exact hc j h1
 ·obtain ⟨_,rfl⟩:=hg j v h2
  exact h j c h1
theorem rdC_nil {w:World} {B e s cap:Nat}:RdC w B (.row e s []) (.slice none 0 cap):=by
 rw [rdC_row]
 exact ⟨none,0,cap,rfl,by simp,.inl rfl⟩
/-- A row of groups of four. -/
theorem rdC_four {α:Type} {w:World} {B e n cap:Nat} {b o:Nat} {g:α→List Cel} (hg:∀x,(g x).length=4) {xs:List α} (hl:xs.length=n) (hb:b<B) (f:Nat→Nat→Value)
  (hc:∀k,k<n→∀j,j<4→w.cell? ⟨b,o+(k * 4+j),none⟩=some (f k j)) (h:∀(k:Nat) x,xs[k]?=some x→∀(j:Nat) c,(g x)[j]?=some c→RdC w B c (f k j)):RdC w B (.row e 4 (xs.flatMap g)) (.slice (some ⟨b,o,none⟩) n cap):=by
 have hlen:=flat4_length hg xs
 refine rdC_of (by rw [hlen,hl]) hb (fun j=>f (j / 4) (j % 4)) (fun j hj=>?_) (fun j c hj=>?_)
 ·rw [hlen,hl] at hj
  have:=hc (j / 4) (by omega) (j % 4) (by omega)
  rwa [show j / 4 * 4+j % 4=j by omega] at this
 ·have hjl:j<(xs.flatMap g).length:=(List.getElem?_eq_some_iff.1 hj).1
  rw [hlen] at hjl
  have hx:xs[j / 4]?=some (xs[j / 4]'(by omega)):=List.getElem?_eq_getElem (by omega)
  refine h (j / 4) _ hx (j % 4) c ?_
  rw [←hj]
  have:=flat4_at hg hx (show j % 4<4 by omega)
  rw [show j / 4 * 4+j % 4=j by omega] at this
  exact this.symm
section
variable {H:Type} {enc:TypeId × Value→H} {W:World} {b0 base:Nat} {held:Bool}
theorem cells_four {a:Addr} {cs:List Value} (h:W.cells? base a 4=some cs):∃c0 c1 c2 c3,cs=[c0,c1,c2,c3]∧W.cell? (a.add 0)=some c0∧W.cell? (a.add 1)=some c1∧W.cell? (a.add 2)=some c2∧W.cell? (a.add 3)=some c3:=by
 obtain ⟨_,hl,hc⟩:=World.cells?_some h
 match cs,hl with
 | [c0,c1,c2,c3],_=>exact ⟨c0,c1,c2,c3,rfl,hc 0 (by omega),hc 1 (by omega),hc 2 (by omega),hc 3 (by omega)⟩
theorem four_at (f:Nat→Value) {w:World} {b o k:Nat} {c0 c1 c2 c3:Value} (e0:f 0=c0) (e1:f 1=c1) (e2:f 2=c2) (e3:f 3=c3) (h0:w.cell? ⟨b,o+(k * 4+0),none⟩=some c0) (h1:w.cell? ⟨b,o+(k * 4+1),none⟩=some c1) (h2:w.cell? ⟨b,o+(k * 4+2),none⟩=some c2) (h3:w.cell? ⟨b,o+(k * 4+3),none⟩=some c3):∀j,j<4→w.cell? ⟨b,o+(k * 4+j),none⟩=some (f j):=by
 intro j hj
 rcases (by omega:j=0∨j=1∨j=2∨j=3) with rfl|rfl|rfl|rfl
 ·rw [e0];exact h0
 ·rw [e1];exact h1
 ·rw [e2];exact h2
 ·rw [e3];exact h3
def le4 (MA:Option Addr) (mn mc:Nat) (x:Le) (j:Nat):Value:=if j=0 then .slice MA mn mc else if j=1 then .int .i64 x.mask else if j=2 then .int .i64 x.flop else .int .i64 x.init
def tl4 (MA:Option Addr) (mn mc:Nat) (LA:Option Addr) (ln lc:Nat) (x:Tile) (j:Nat):Value:=if j=0 then .slice MA mn mc else if j=1 then .slice LA ln lc else if j=2 then .int .i64 x.pad else .int .i64 x.ram
theorem le4_rd {w:World} {MA:Option Addr} {mn mc:Nat} {x:Le} (h:Ints w MA mn x.sel) (j:Nat) (c:Cel) (hc:x.cells[j]?=some c):RdC w w.heap.size c (le4 MA mn mc x j):=by
 match j,hc with
 | 0,hc=>injection hc with hc;subst hc;exact h.tree mc
 | 1,hc=>injection hc with hc;subst hc;rw [rdC_int];rfl
 | 2,hc=>injection hc with hc;subst hc;rw [rdC_int];rfl
 | 3,hc=>injection hc with hc;subst hc;rw [rdC_int];rfl
 | j+4,hc=>simp [Le.cells] at hc
theorem tl4_rd {w:World} {MA LA:Option Addr} {mn mc ln lc:Nat} {x:Tile} (h:Ints w MA mn x.mux) (h2:RdC w w.heap.size (celE x.les) (.slice LA ln lc)) (j:Nat) (c:Cel) (hc:x.cells[j]?=some c):RdC w w.heap.size c (tl4 MA mn mc LA ln lc x j):=by
 match j,hc with
 | 0,hc=>injection hc with hc;subst hc;exact h.tree mc
 | 1,hc=>injection hc with hc;subst hc;exact h2
 | 2,hc=>injection hc with hc;subst hc;rw [rdC_int];rfl
 | 3,hc=>injection hc with hc;subst hc;rw [rdC_int];rfl
 | j+4,hc=>simp [Tile.cells] at hc
theorem trod_le {fuel:Nat} {c0 c1 c2 c3:Value} {y:DataW H × List MemPlace} (h:DataW.trod enc Try.prog W base (fun _=>true) held fuel 130 [c0,c1,c2,c3]=some y):∃(x:Le) (MA:Option Addr) (mn mc:Nat),c0 = .slice MA mn mc∧c1 = .int .i64 x.mask∧c2 = .int .i64 x.flop∧c3 = .int .i64 x.init∧Ints W MA mn x.sel∧mn≤maxLen:=by
 obtain ⟨y0,y1,y2,y3,n,_,_,h0,h1,h2,h3⟩:=Joins.trod_struct4 Try.underlying130 h
 have k:Try.prog.cellsOf 3=1:=by kernel_rfl
 have k2:Try.prog.cellsOf 44=1:=by kernel_rfl
 simp only [k,k2,List.drop,List.take] at h0 h1 h2 h3
 obtain ⟨MA,mn,mc,xs,rfl,hi,hm⟩:=trod_ints h0
 obtain ⟨a1,e1,_,w1⟩:=DataW.trod_int Try.underlying3 h1
 obtain ⟨a2,e2,_,w2⟩:=DataW.trod_int Try.underlying3 h2
 obtain ⟨a3,e3,_,w3⟩:=DataW.trod_int Try.underlying3 h3
 simp only [List.cons.injEq,and_true] at e1 e2 e3
 exact ⟨⟨xs,a1,a2,a3⟩,MA,mn,mc,rfl,e1,e2,e3,hi,hm⟩
theorem spot_none {a:Addr} {v:Value} (h:W.cell? a=some v):∃b o,a=⟨b,o,none⟩∧b<W.heap.size:=by
 obtain ⟨b,o,s⟩:=a
 have hs:s=none:=World.cell?_spot h
 subst hs
 exact ⟨b,o,rfl,cell_lt h⟩
theorem add_two (b o i j:Nat):((⟨b,o,none⟩:Addr).add i).add j=⟨b,o+(i+j),none⟩:=by rw [Go.Deep.add_add,Addr.add_lit]
theorem trod_les {fuel:Nat} {v:Value} {y:DataW H × List MemPlace} (h:DataW.trod enc Try.prog W base (fun _=>true) held fuel 69 [v]=some y):∃(A:Option Addr) (n c:Nat) (es:List Le),v = .slice A n c∧RdC W W.heap.size (celE es) v∧n≤maxLen∧∀e∈es,e.sel.length≤maxLen:=by
 have hs:Try.prog.cellsOf 130=4:=by kernel_rfl
 rcases Go.Deep.open_slice Try.underlying69 h with ⟨hcs,_⟩|⟨a,len,cap,m,n,D,Pl,hcs,_,hl,hm,hmm,_,hx⟩
 ·simp only [List.cons.injEq,and_true] at hcs
  subst hcs
  exact ⟨none,0,0,[],rfl,rdC_nil,Nat.zero_le _,by simp⟩
 ·simp only [List.cons.injEq,and_true] at hcs
  subst hcs
  simp only [if_true] at hmm
  rw [hs] at hx
  have hone:∀i,i<len→∃z:Le × Option Addr × Nat × Nat,Ints W z.2.1 z.2.2.1 z.1.sel∧z.2.2.1≤maxLen∧W.cell? ((a.add (i * 4)).add 0)=some (.slice z.2.1 z.2.2.1 z.2.2.2)∧W.cell? ((a.add (i * 4)).add 1)=some (.int .i64 z.1.mask)∧W.cell? ((a.add (i * 4)).add 2)=some (.int .i64 z.1.flop)∧W.cell? ((a.add (i * 4)).add 3)=some (.int .i64 z.1.init):=fun i hi=>by
   obtain ⟨cs',h1,h2⟩:=hx i (by omega)
   obtain ⟨c0,c1,c2,c3,rfl,g0,g1,g2,g3⟩:=cells_four h1
   obtain ⟨x,MA,mn,mc,rfl,rfl,rfl,rfl,hi,hm⟩:=trod_le h2
   exact ⟨(x,MA,mn,mc),hi,hm,g0,g1,g2,g3⟩
  have:Inhabited (Le × Option Addr × Nat × Nat):=⟨(Le.zero,none,0,0)⟩
  obtain ⟨f,hf⟩:=Go.Deep.choose_lt hone
  rcases Nat.eq_zero_or_pos len with h0|h0
  ·subst h0
   refine ⟨some a,0,cap,[],rfl,?_,Nat.zero_le _,by simp⟩
   rw [celE,List.flatMap_nil,rdC_row]
   exact ⟨some a,0,cap,rfl,by simp,.inl rfl⟩
  ·obtain ⟨_,_,g0,_⟩:=hf 0 h0
   rw [Go.Deep.add_add,Nat.zero_mul] at g0
   obtain ⟨b,o,ha,hb⟩:=spot_none g0
   have ha2:a=⟨b,o,none⟩:=by
    obtain ⟨b',o',s'⟩:=a
    simp only [Addr.add,Nat.add_zero] at ha
    exact ha
   subst ha2
   simp only [add_two] at hf
   refine ⟨_,len,cap,(List.range len).map fun i=>(f i).1,rfl,rdC_four Le.cells_length (by simp) hb (fun k j=>le4 (f k).2.1 (f k).2.2.1 (f k).2.2.2 (f k).1 j) (fun k hk=>?_) (fun k x hx2=>?_),Nat.le_trans hl hm,?_⟩
   ·obtain ⟨_,_,q0,q1,q2,q3⟩:=hf k hk
    exact four_at _ rfl rfl rfl rfl q0 q1 q2 q3
   ·rw [List.getElem?_map] at hx2
    rcases Nat.lt_or_ge k len with hk|hk
    ·rw [List.getElem?_range hk] at hx2
     simp only [Option.map_some,Option.some.injEq] at hx2
     subst hx2
     exact le4_rd (hf k hk).1
    ·rw [List.getElem?_eq_none (by simpa using hk)] at hx2;cases hx2
   ·intro e he
    obtain ⟨i,hi,rfl⟩:=List.mem_map.1 he
    have hi:=List.mem_range.1 hi
    obtain ⟨q,q2,_⟩:=hf i hi
    rw [q.1];exact q2
theorem trod_tile {fuel:Nat} {c0 c1 c2 c3:Value} {y:DataW H × List MemPlace} (h:DataW.trod enc Try.prog W base (fun _=>true) held fuel 71 [c0,c1,c2,c3]=some y):∃(x:Tile) (MA:Option Addr) (mn mc:Nat) (LA:Option Addr) (ln lc:Nat),c0 = .slice MA mn mc∧c1 = .slice LA ln lc∧c2 = .int .i64 x.pad∧c3 = .int .i64 x.ram∧Ints W MA mn x.mux∧mn≤maxLen∧RdC W W.heap.size (celE x.les) (.slice LA ln lc)∧ln≤maxLen∧∀e∈x.les,e.sel.length≤maxLen:=by
 obtain ⟨y0,y1,y2,y3,n,_,_,h0,h1,h2,h3⟩:=Joins.trod_struct4 Try.underlying71 h
 have k:Try.prog.cellsOf 3=1:=by kernel_rfl
 have k2:Try.prog.cellsOf 44=1:=by kernel_rfl
 have k3:Try.prog.cellsOf 69=1:=by kernel_rfl
 simp only [k,k2,k3,List.drop,List.take] at h0 h1 h2 h3
 obtain ⟨MA,mn,mc,xs,rfl,hi,hm⟩:=trod_ints h0
 obtain ⟨LA,ln,lc,es,rfl,he,hn,hs⟩:=trod_les h1
 obtain ⟨a2,e2,_,w2⟩:=DataW.trod_int Try.underlying3 h2
 obtain ⟨a3,e3,_,w3⟩:=DataW.trod_int Try.underlying3 h3
 simp only [List.cons.injEq,and_true] at e2 e3
 exact ⟨⟨xs,es,a2,a3⟩,MA,mn,mc,LA,ln,lc,rfl,rfl,e2,e3,hi,hm,he,hn,hs⟩
/-- Bounds on what tiles that come in hold. -/
def TlBd (ts:List Tile):Prop:=∀t∈ts,t.mux.length≤maxLen∧t.les.length≤maxLen∧∀e∈t.les,e.sel.length≤maxLen
theorem trod_tiles {fuel:Nat} {v:Value} {y:DataW H × List MemPlace} (h:DataW.trod enc Try.prog W base (fun _=>true) held fuel 24 [v]=some y):∃(A:Option Addr) (n c:Nat) (ts:List Tile),v = .slice A n c∧RdC W W.heap.size (celT ts) v∧n≤maxLen∧TlBd ts:=by
 have hs:Try.prog.cellsOf 71=4:=by kernel_rfl
 rcases Go.Deep.open_slice Try.underlying24 h with ⟨hcs,_⟩|⟨a,len,cap,m,n,D,Pl,hcs,_,hl,hm,hmm,_,hx⟩
 ·simp only [List.cons.injEq,and_true] at hcs
  subst hcs
  exact ⟨none,0,0,[],rfl,rdC_nil,Nat.zero_le _,by intro t ht;cases ht⟩
 ·simp only [List.cons.injEq,and_true] at hcs
  subst hcs
  simp only [if_true] at hmm
  rw [hs] at hx
  have hone:∀i,i<len→∃z:Tile × (Option Addr × Nat × Nat) × Option Addr × Nat × Nat,(Ints W z.2.1.1 z.2.1.2.1 z.1.mux∧z.2.1.2.1≤maxLen∧RdC W W.heap.size (celE z.1.les) (.slice z.2.2.1 z.2.2.2.1 z.2.2.2.2)∧z.2.2.2.1≤maxLen∧∀e∈z.1.les,e.sel.length≤maxLen)∧W.cell? ((a.add (i * 4)).add 0)=some (.slice z.2.1.1 z.2.1.2.1 z.2.1.2.2)∧W.cell? ((a.add (i * 4)).add 1)=some (.slice z.2.2.1 z.2.2.2.1 z.2.2.2.2)∧W.cell? ((a.add (i * 4)).add 2)=some (.int .i64 z.1.pad)∧W.cell? ((a.add (i * 4)).add 3)=some (.int .i64 z.1.ram):=fun i hi=>by
   obtain ⟨cs',h1,h2⟩:=hx i (by omega)
   obtain ⟨c0,c1,c2,c3,rfl,g0,g1,g2,g3⟩:=cells_four h1
   obtain ⟨x,MA,mn,mc,LA,ln,lc,rfl,rfl,rfl,rfl,q1,q2,q3,q4,q5⟩:=trod_tile h2
   exact ⟨(x,(MA,mn,mc),LA,ln,lc),⟨q1,q2,q3,q4,q5⟩,g0,g1,g2,g3⟩
  have:Inhabited (Tile × (Option Addr × Nat × Nat) × Option Addr × Nat × Nat):=⟨(Tile.zero,(none,0,0),none,0,0)⟩
  obtain ⟨f,hf⟩:=Go.Deep.choose_lt hone
  rcases Nat.eq_zero_or_pos len with h0|h0
  ·subst h0
   refine ⟨some a,0,cap,[],rfl,?_,Nat.zero_le _,by intro t ht;cases ht⟩
   rw [celT,List.flatMap_nil,rdC_row]
   exact ⟨some a,0,cap,rfl,by simp,.inl rfl⟩
  ·obtain ⟨_,g0,_⟩:=hf 0 h0
   rw [Go.Deep.add_add,Nat.zero_mul] at g0
   obtain ⟨b,o,ha,hb⟩:=spot_none g0
   have ha2:a=⟨b,o,none⟩:=by
    obtain ⟨b',o',s'⟩:=a
    simp only [Addr.add,Nat.add_zero] at ha
    exact ha
   subst ha2
   simp only [add_two] at hf
   refine ⟨_,len,cap,(List.range len).map fun i=>(f i).1,rfl,rdC_four Tile.cells_length (by simp) hb (fun k j=>tl4 (f k).2.1.1 (f k).2.1.2.1 (f k).2.1.2.2 (f k).2.2.1 (f k).2.2.2.1 (f k).2.2.2.2 (f k).1 j) (fun k hk=>?_) (fun k x hx2=>?_),Nat.le_trans hl hm,?_⟩
   ·obtain ⟨_,q0,q1,q2,q3⟩:=hf k hk
    exact four_at _ rfl rfl rfl rfl q0 q1 q2 q3
   ·rw [List.getElem?_map] at hx2
    rcases Nat.lt_or_ge k len with hk|hk
    ·rw [List.getElem?_range hk] at hx2
     simp only [Option.map_some,Option.some.injEq] at hx2
     subst hx2
     exact tl4_rd (hf k hk).1.1 (hf k hk).1.2.2.1
    ·rw [List.getElem?_eq_none (by simpa using hk)] at hx2;cases hx2
   ·intro t ht
    obtain ⟨i,hi,rfl⟩:=List.mem_map.1 ht
    have hi:=List.mem_range.1 hi
    obtain ⟨⟨q1,q2,q3,q4,q5⟩,_⟩:=hf i hi
    exact ⟨by rw [q1.1];exact q2,by rw [q3.elen];exact q4,q5⟩
theorem open_tiles {v:Value} {d:DataW H} {p:List MemPlace} (hv:Value.okWide Try.prog W .any b0 24 v) (h:DataW.Trod enc Try.prog W base (fun _=>true) held 24 v d p) :
  ∃(A:Option Addr) (n c:Nat) (ts:List Tile),v = .slice A n c∧RdC W W.heap.size (celT ts) (.slice A n c)∧n≤maxLen∧TlBd ts:=by
 obtain ⟨A,n,c,rfl⟩:=okWide_slice Try.underlying24 hv
 obtain ⟨fuel,hf⟩:=h
 obtain ⟨A',n',c',ts,he,h1,h2,h3⟩:=trod_tiles (v := .slice A n c) (by simpa [Value.cells] using hf)
 injection he with e1 e2 e3
 subst e1 e2 e3
 exact ⟨A,n,c,ts,rfl,h1,h2,h3⟩
end
end Go.Proofs.Ytbnfdhidgdfbeaa
