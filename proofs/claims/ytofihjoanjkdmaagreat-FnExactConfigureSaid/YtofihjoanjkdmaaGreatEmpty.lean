/- Codewords: the walks of the program's and the reference's functions. -/
import Derived.Deep.DeepCutAuto
import Derived.Test.YtofihjoanjkdmaaGreatCopies
import Derived.Test.YtofihjoanjkdmaaGreatTilePure
namespace Go.Proofs.YtofihjoanjkdmaaGreat
set_option maxHeartbeats 8000000
set_option maxRecDepth 100000
open Go.RowKit Cw
/-! ### counting ones -/
/-! ### encoding -/
/-! ### repairing -/
def FP (g j:Nat):Array Value:=#[.slice (some ⟨g,0,none⟩) 4 4,.int .i64 0,.int .i64 0,.int .i64 0,.slice (some ⟨j,0,none⟩) 4 4,.int .i64 0,.int .i64 0,.int .i64 0]
def FQ (lo M:Nat) (w:World) (v:Value):Prop:=∃q g u j:Nat,v = .agg #[.slice (some ⟨q,0,none⟩) M M,.slice (some ⟨g,0,none⟩) 2 2,.int .i64 0,.int .i64 0] /\
 lo<=q/\lo<=g/\lo<=u/\lo<=j/\q≠g/\q≠u/\q≠j/\g≠u/\g≠j/\u≠j /\
 w.heap[q]?=some (.cells (arr (List.replicate M 0)) 3 (0,0))/\w.heap[g]?=some (.cells (FP u j) 121 (0,0)) /\
 w.heap[u]?=some (.cells (arr (List.replicate 4 0)) 3 (0,0))/\w.heap[j]?=some (.cells (arr (List.replicate 4 0)) 3 (0,0))
def qi (w:World) (M:Nat) (e:Ending) (w':World):Prop:=∃v,e = .returned v/\FQ w.heap.size M w' v/\Below w.heap.size w w'
theorem Ba (d:Dev) (w:World) (g:dR d=true) :
  Calls Tryz.prog 147 #[.agg (dv d)] w fun e w'=>e = .returned (.int .i64 (ny d))/\Below w.heap.size w w':=by
 have j:=ay g
 rw [(oC g).1]
 exact yQ d w (by omega) (by omega)
theorem z8 (d:Dev) (w:World) (g:dR d=true) :
  Calls Tryz.prog 145 #[.agg (dv d)] w fun e w'=>e = .returned (.int .i64 (ny d))/\Below w.heap.size w w':=by
 rw [(oC g).1]
 exact wN d w g
theorem oW {w:World} {g:Nat} {o:Obj} {p:Addr} (v:Value) (hg:w.heap[g]?=some o) (j:g≠p.block):(w.setCell p v).heap[g]?=some o:=(Below.heap_setCell w p v g j).trans hg
theorem l6 {w:World} {g:Nat} {o:Obj} (h:w.heap[g]?=some o):w.drew.heap[g]?=some o:=h
theorem yO {a b:Nat} (h:a+1+1<=b):a+1<b/\a<b/\a<b+1/\a<b+1+1/\a<b+1+1+1/\a<b+1+1+1+1:=by omega
theorem vY {w w':World} {M:Nat} {q g u j:Nat} (z:Below w.heap.size w w') (h:w.heap.size<=q/\w.heap.size<=g/\w.heap.size<=u/\w.heap.size<=j) (hn:q≠g/\q≠u/\q≠j/\g≠u/\g≠j/\u≠j)
  (h1:w'.heap[q]?=some (.cells (arr (List.replicate M 0)) 3 (0,0))) (h2:w'.heap[g]?=some (.cells (FP u j) 121 (0,0))) (h3:w'.heap[u]?=some (.cells (arr [0,0,0,0]) 3 (0,0))) (h4:w'.heap[j]?=some (.cells (arr [0,0,0,0]) 3 (0,0))) :
  qi w M (.returned (.agg #[.slice (some ⟨q,0,none⟩) M M,.slice (some ⟨g,0,none⟩) 2 2,.int .i64 0,.int .i64 0])) w' :=
 ⟨_,rfl,⟨q,g,u,j,rfl,h.1,h.2.1,h.2.2.1,h.2.2.2,hn.1,hn.2.1,hn.2.2.1,hn.2.2.2.1,hn.2.2.2.2.1,hn.2.2.2.2.2,h1,h2,h3,h4⟩,z⟩
theorem CK {w j g:World} {d:Dev} (h:Below w.heap.size w j/\KD j w.heap.size d (K4 j (w.heap.size+1) (.slice none 0 0) (.slice none 0 0) (.int .i64 0) (.int .i64 0) (j.frozen? ⟨w.heap.size+1,0,none⟩=false/\j.frozen? ⟨w.heap.size+1,1,none⟩=false/\j.frozen? ⟨w.heap.size+1,2,none⟩=false/\j.frozen? ⟨w.heap.size+1,3,none⟩=false/\w.heap.size+1<j.heap.size))) (hk:∀k,k<w.heap.size+2→g.heap[k]?=j.heap[k]?) (D:Below w.heap.size w g) (hs:j.heap.size<=g.heap.size):Below w.heap.size w g/\KD g w.heap.size d (K4 g (w.heap.size+1) (.slice none 0 0) (.slice none 0 0) (.int .i64 0) (.int .i64 0) (g.frozen? ⟨w.heap.size+1,0,none⟩=false/\g.frozen? ⟨w.heap.size+1,1,none⟩=false/\g.frozen? ⟨w.heap.size+1,2,none⟩=false/\g.frozen? ⟨w.heap.size+1,3,none⟩=false/\w.heap.size+1<g.heap.size)):=by
 obtain ⟨_,h0,h1,h2,h3,u,e1,e2,e3,B,G,H,z,hl⟩:=h
 have c:=fun (k o:Nat) (q:k<w.heap.size+2)=>World.cell?_of_block (a:=⟨k,o,none⟩) (hk k q)
 have f:=fun (k o:Nat) (q:k<w.heap.size+2)=>World.frozen?_of_block (a:=⟨k,o,none⟩) (hk k q)
 exact ⟨D,(c _ _ (by omega)).trans h0,(c _ _ (by omega)).trans h1,(c _ _ (by omega)).trans h2,(c _ _ (by omega)).trans h3,(c _ _ (by omega)).trans u,(c _ _ (by omega)).trans e1,(c _ _ (by omega)).trans e2,(c _ _ (by omega)).trans e3,(f _ _ (by omega)).trans B,(f _ _ (by omega)).trans G,(f _ _ (by omega)).trans H,(f _ _ (by omega)).trans z,by omega⟩
theorem kI {w g:World} {d:Dev} (o:Obj) (h:Below w.heap.size w g/\KD g w.heap.size d (K4 g (w.heap.size+1) (.slice none 0 0) (.slice none 0 0) (.int .i64 0) (.int .i64 0) (g.frozen? ⟨w.heap.size+1,0,none⟩=false/\g.frozen? ⟨w.heap.size+1,1,none⟩=false/\g.frozen? ⟨w.heap.size+1,2,none⟩=false/\g.frozen? ⟨w.heap.size+1,3,none⟩=false/\w.heap.size+1<g.heap.size))):Below w.heap.size w (g.alloc o)/\(g.alloc o).cell? ⟨w.heap.size,0,none⟩=some (.int .i64 d.W)/\(g.alloc o).cell? ⟨w.heap.size,1,none⟩=some (.int .i64 d.H)/\(g.alloc o).cell? ⟨w.heap.size,2,none⟩=some (.int .i64 d.T)/\(g.alloc o).cell? ⟨w.heap.size,3,none⟩=some (.int .i64 d.R)/\(g.alloc o).cell? ⟨w.heap.size+1,0,none⟩=some (.slice none 0 0)/\(g.alloc o).cell? ⟨w.heap.size+1,1,none⟩=some (.slice none 0 0)/\(g.alloc o).cell? ⟨w.heap.size+1,2,none⟩=some (.int .i64 0)/\(g.alloc o).cell? ⟨w.heap.size+1,3,none⟩=some (.int .i64 0)/\(g.alloc o).frozen? ⟨w.heap.size+1,0,none⟩=false/\(g.alloc o).frozen? ⟨w.heap.size+1,1,none⟩=false/\(g.alloc o).frozen? ⟨w.heap.size+1,2,none⟩=false/\(g.alloc o).frozen? ⟨w.heap.size+1,3,none⟩=false/\w.heap.size+1<(g.alloc o).heap.size:=by
 have hl:=h.2.2.2.2.2.2.2.2.2.2.2.2.2
 exact CK h (fun k hk=>Below.heap_alloc _ _ _ (by omega)) (aB h.1 o) (by simp)
theorem kU {w g j:World} {d:Dev} (q:Below g.drew.heap.size g.drew j) (h:Below w.heap.size w g/\KD g w.heap.size d (K4 g (w.heap.size+1) (.slice none 0 0) (.slice none 0 0) (.int .i64 0) (.int .i64 0) (g.frozen? ⟨w.heap.size+1,0,none⟩=false/\g.frozen? ⟨w.heap.size+1,1,none⟩=false/\g.frozen? ⟨w.heap.size+1,2,none⟩=false/\g.frozen? ⟨w.heap.size+1,3,none⟩=false/\w.heap.size+1<g.heap.size))):Below w.heap.size w j/\KD j w.heap.size d (K4 j (w.heap.size+1) (.slice none 0 0) (.slice none 0 0) (.int .i64 0) (.int .i64 0) (j.frozen? ⟨w.heap.size+1,0,none⟩=false/\j.frozen? ⟨w.heap.size+1,1,none⟩=false/\j.frozen? ⟨w.heap.size+1,2,none⟩=false/\j.frozen? ⟨w.heap.size+1,3,none⟩=false/\w.heap.size+1<j.heap.size)):=by
 have hl:=h.2.2.2.2.2.2.2.2.2.2.2.2.2
 exact CK h (fun k hk=>q.block k (Nat.lt_of_lt_of_le hk hl)) (h.1.trans ⟨q.os,q.tape,q.output,q.size,fun k hk=>q.block k (Nat.lt_of_lt_of_le hk h.1.size)⟩) q.size
theorem xM {w g:World} {d:Dev} (q:Below ((w.alloc (.cells (dv d) 36)).alloc (.cells #[.slice none 0 0,.slice none 0 0,.int .i64 0,.int .i64 0] 110)).heap.size ((w.alloc (.cells (dv d) 36)).alloc (.cells #[.slice none 0 0,.slice none 0 0,.int .i64 0,.int .i64 0] 110)) g):Below w.heap.size w g/\KD g w.heap.size d (K4 g (w.heap.size+1) (.slice none 0 0) (.slice none 0 0) (.int .i64 0) (.int .i64 0) (g.frozen? ⟨w.heap.size+1,0,none⟩=false/\g.frozen? ⟨w.heap.size+1,1,none⟩=false/\g.frozen? ⟨w.heap.size+1,2,none⟩=false/\g.frozen? ⟨w.heap.size+1,3,none⟩=false/\w.heap.size+1<g.heap.size)):=by
 have hA:((w.alloc (.cells (dv d) 36)).alloc (.cells #[.slice none 0 0,.slice none 0 0,.int .i64 0,.int .i64 0] 110)).heap[w.heap.size]?=some (.cells (dv d) 36 (0,0)):=aW _ (aI _ _)
 have u:((w.alloc (.cells (dv d) 36)).alloc (.cells #[.slice none 0 0,.slice none 0 0,.int .i64 0,.int .i64 0] 110)).heap[w.heap.size+1]?=some (.cells #[.slice none 0 0,.slice none 0 0,.int .i64 0,.int .i64 0] 110 (0,0)):=by
  have:=aI (w.alloc (.cells (dv d) 36)) (.cells #[.slice none 0 0,.slice none 0 0,.int .i64 0,.int .i64 0] 110)
  simpa using this
 have hA':=aD q hA
 have j:=aD q u
 have hs:=q.size
 simp only [World.size_alloc] at hs
 clear hA u
 refine ⟨aA (aB (aB (Below.refl _ _) _) _) q,?_,?_,?_,?_,?_,?_,?_,?_,?_,?_,?_,?_,by omega⟩
 all_goals first|(unfold World.cell?;rw [hA'];rfl)|(unfold World.cell?;rw [j];rfl)|(unfold World.frozen?;rw [j];rfl)
theorem kV {w g:World} {u j B z:Value} (q:Below w.heap.size w g):Below w.heap.size w ((((g.setCell ⟨w.heap.size+1,0,none⟩ u).setCell ⟨w.heap.size+1,1,none⟩ j).setCell ⟨w.heap.size+1,2,none⟩ B).setCell ⟨w.heap.size+1,3,none⟩ z) :=
 (((q.setCell (p:=⟨w.heap.size+1,0,none⟩) (by simp) _).setCell (p:=⟨w.heap.size+1,1,none⟩) (by simp) _).setCell (p:=⟨w.heap.size+1,2,none⟩) (by simp) _).setCell (p:=⟨w.heap.size+1,3,none⟩) (by simp) _
theorem AB {w g:World} {d:Dev} (j:Below ((w.alloc (.cells (dv d) 36)).alloc (.cells #[.slice none 0 0,.slice none 0 0,.int .i64 0,.int .i64 0] 110)).heap.size ((w.alloc (.cells (dv d) 36)).alloc (.cells #[.slice none 0 0,.slice none 0 0,.int .i64 0,.int .i64 0] 110)) g):g.heap[w.heap.size+1]?=some (.cells #[.slice none 0 0,.slice none 0 0,.int .i64 0,.int .i64 0] 110 (0,0)):=by
 have q:((w.alloc (.cells (dv d) 36)).alloc (.cells #[.slice none 0 0,.slice none 0 0,.int .i64 0,.int .i64 0] 110)).heap[w.heap.size+1]?=some (.cells #[.slice none 0 0,.slice none 0 0,.int .i64 0,.int .i64 0] 110 (0,0)):=by
  have:=aI (w.alloc (.cells (dv d) 36)) (.cells #[.slice none 0 0,.slice none 0 0,.int .i64 0,.int .i64 0] 110)
  simpa using this
 exact aD j q
theorem kF {w:World} {g:Nat} {q j z u:Value} (h:w.heap[g]?=some (.cells #[.slice none 0 0,.slice none 0 0,.int .i64 0,.int .i64 0] 110 (0,0))) :
  ((((w.setCell ⟨g,0,none⟩ q).setCell ⟨g,1,none⟩ j).setCell ⟨g,2,none⟩ z).setCell ⟨g,3,none⟩ u).heap[g]?=some (.cells #[q,j,z,u] 110 (0,0)) :=
 (iK (iK (iK (iK h 0 q) 1 j) 2 z) 3 u).trans rfl
theorem vZ (w:World):w.drew.heap.size=w.heap.size:=rfl
theorem kW (w:World) (a:Addr) (v:Value):(w.setCell a v).heap.size=w.heap.size:=by simp [World.setCell]
def Fp (a M:Nat) (w w':World):Prop:=∃q g u j:Nat,w'.heap[a+1]?=some (.cells #[.slice (some ⟨q,0,none⟩) M M,.slice (some ⟨g,0,none⟩) 2 2,.int .i64 0,.int .i64 0] 110 (0,0)) /\
 (w'.heap[q]?=some (.cells (arr (List.replicate M 0)) 3 (0,0))/\w'.heap[g]?=some (.cells #[.slice (some ⟨u,0,none⟩) 4 4,.int .i64 0,.int .i64 0,.int .i64 0,.slice (some ⟨j,0,none⟩) 4 4,.int .i64 0,.int .i64 0,.int .i64 0] 121 (0,0))/\w'.heap[u]?=some (.cells (arr [0,0,0,0]) 3 (0,0))/\w'.heap[j]?=some (.cells (arr [0,0,0,0]) 3 (0,0))) /\
 (a<=q/\a<=g/\a<=u/\a<=j)/\(q≠g/\q≠u/\q≠j/\g≠u/\g≠j/\u≠j)/\Below w.heap.size w w'
theorem CL {a M:Nat} {w w':World} {q g u j:Nat} (x:w'.heap[a+1]?=some (.cells #[.slice (some ⟨q,0,none⟩) M M,.slice (some ⟨g,0,none⟩) 2 2,.int .i64 0,.int .i64 0] 110 (0,0))) (hl:w'.heap[g]?=some (.cells #[.slice (some ⟨u,0,none⟩) 4 4,.int .i64 0,.int .i64 0,.int .i64 0,.slice (some ⟨j,0,none⟩) 4 4,.int .i64 0,.int .i64 0,.int .i64 0] 121 (0,0))) (G:w'.heap[q]?=some (.cells (arr (List.replicate M 0)) 3 (0,0))) (h0:w'.heap[u]?=some (.cells (arr [0,0,0,0]) 3 (0,0))) (h1:w'.heap[j]?=some (.cells (arr [0,0,0,0]) 3 (0,0))) (z:a<=q/\a<=g/\a<=u/\a<=j) (B:q≠g/\q≠u/\q≠j/\g≠u/\g≠j/\u≠j) (D:Below w.heap.size w w'):Fp a M w w':=⟨q,g,u,j,x,⟨G,hl,h0,h1⟩,z,B,D⟩
theorem dD {w g:World} {d:Dev} (o:Obj) (h:KDe g w.heap.size d):(g.alloc o).cell? ⟨w.heap.size,0,none⟩=some (.int .i64 d.W)/\(g.alloc o).cell? ⟨w.heap.size,1,none⟩=some (.int .i64 d.H)/\(g.alloc o).cell? ⟨w.heap.size,2,none⟩=some (.int .i64 d.T)/\(g.alloc o).cell? ⟨w.heap.size,3,none⟩=some (.int .i64 d.R):=by
 obtain ⟨h0,h1,h2,h3⟩:=h
 have c:=fun (k:Nat) (hl:w.heap.size<g.heap.size)=>World.cell?_of_block (a:=⟨w.heap.size,k,none⟩) (Below.heap_alloc g o w.heap.size hl)
 have hl:w.heap.size<g.heap.size:=World.block_lt_of_cell? g ⟨w.heap.size,0,none⟩ h0
 exact ⟨(c _ hl).trans h0,(c _ hl).trans h1,(c _ hl).trans h2,(c _ hl).trans h3⟩
theorem l7 {w g:World} {d:Dev} (h:KDe g w.heap.size d):g.drew.cell? ⟨w.heap.size,0,none⟩=some (.int .i64 d.W)/\g.drew.cell? ⟨w.heap.size,1,none⟩=some (.int .i64 d.H)/\g.drew.cell? ⟨w.heap.size,2,none⟩=some (.int .i64 d.T)/\g.drew.cell? ⟨w.heap.size,3,none⟩=some (.int .i64 d.R):=h
theorem yP {w g:World} {d:Dev} (k:Nat) (v:Value) (h:KDe g w.heap.size d):(g.setCell ⟨w.heap.size+1,k,none⟩ v).cell? ⟨w.heap.size,0,none⟩=some (.int .i64 d.W)/\(g.setCell ⟨w.heap.size+1,k,none⟩ v).cell? ⟨w.heap.size,1,none⟩=some (.int .i64 d.H)/\(g.setCell ⟨w.heap.size+1,k,none⟩ v).cell? ⟨w.heap.size,2,none⟩=some (.int .i64 d.T)/\(g.setCell ⟨w.heap.size+1,k,none⟩ v).cell? ⟨w.heap.size,3,none⟩=some (.int .i64 d.R):=by
 obtain ⟨h0,h1,h2,h3⟩:=h
 have c:=fun (o:Nat)=>World.cell?_of_block (w:=g) (w':=g.setCell ⟨w.heap.size+1,k,none⟩ v) (a:=⟨w.heap.size,o,none⟩) (Below.heap_setCell _ _ _ _ (by simp))
 exact ⟨(c _).trans h0,(c _).trans h1,(c _).trans h2,(c _).trans h3⟩
theorem l8 {w g:World} {d:Dev} {q j z u:Value} (h:KDe g w.heap.size d):((((g.setCell ⟨w.heap.size+1,0,none⟩ q).setCell ⟨w.heap.size+1,1,none⟩ j).setCell ⟨w.heap.size+1,2,none⟩ z).setCell ⟨w.heap.size+1,3,none⟩ u).cell? ⟨w.heap.size,0,none⟩=some (.int .i64 d.W)/\((((g.setCell ⟨w.heap.size+1,0,none⟩ q).setCell ⟨w.heap.size+1,1,none⟩ j).setCell ⟨w.heap.size+1,2,none⟩ z).setCell ⟨w.heap.size+1,3,none⟩ u).cell? ⟨w.heap.size,1,none⟩=some (.int .i64 d.H)/\((((g.setCell ⟨w.heap.size+1,0,none⟩ q).setCell ⟨w.heap.size+1,1,none⟩ j).setCell ⟨w.heap.size+1,2,none⟩ z).setCell ⟨w.heap.size+1,3,none⟩ u).cell? ⟨w.heap.size,2,none⟩=some (.int .i64 d.T)/\((((g.setCell ⟨w.heap.size+1,0,none⟩ q).setCell ⟨w.heap.size+1,1,none⟩ j).setCell ⟨w.heap.size+1,2,none⟩ z).setCell ⟨w.heap.size+1,3,none⟩ u).cell? ⟨w.heap.size,3,none⟩=some (.int .i64 d.R):=yP 3 _ (yP 2 _ (yP 1 _ (yP 0 _ h)))
theorem wM (d:Dev) (w:World) (hd:dR d=true) :
  Calls Tryz.prog 71 #[.agg (dv d)] w (qi w (ny d)):=by
 obtain ⟨hm,ax,ak,_⟩:=oC hd
 have HD:=Hd hd
 obtain ⟨i0,hi,J,af,z⟩:=info_parts jL
 have U:=fun W=>bv (P:=Tryz.prog) 26 3 i0 _ Tryz.underlying26 hi J .i64 .i64 (ny d) (ny d) (Nat.le_refl _) (by rw [z];omega) (by omega) W
 have I:∀W:World,(Instr.makeSlice 26 (.int .i64 4) (.int .i64 4)).run Tryz.prog W = .ok (.slice (some ⟨W.heap.size,0,none⟩) 4 4) (W.alloc (.cells (madeCells (Value.int .i64 0).cells (4 * i0.size)) 3)):=fun W=>bv (P:=Tryz.prog) 26 3 i0 _ Tryz.underlying26 hi J .i64 .i64 4 4 (Nat.le_refl _) (by rw [z];omega) (by omega) W
 rw [af,Nat.mul_one,show (Value.int .i64 0).cells=#[Value.int .i64 0] from rfl,nu] at U I
 clear hi J af z
 generalize V:ny d=M at *
 have am:=Hd V
 have Q:∀w,Calls Tryz.prog 147 #[.agg (dv d)] w fun e w'=>e = .returned (.int .i64 (M:Int))/\Below w.heap.size w w':=fun w=>by rw [←am.out];exact Ba d w HD.out
 have aq:=Hd Q
 clear hd hm V Q
 go_enter Tryz.func71,Tryz.ntmps71
 go_wp2_with fail
 refine (fu d _).mono ?_
 rintro e u ⟨rfl,b1⟩
 have hS:=xM b1
 have D:=Hd (AB b1)
 rw [HD.out]
 go_wp2_with fail
 clear b1
 obtain ⟨hB,K,c1,c2,c3,R,e1,e2,e3,f0,Z,f2,f3,hl⟩:=hS
 obtain ⟨p1,p2,p3,p4,p5,p6⟩:=yO (a:=w.heap.size) (b:=u.heap.size) (by omega)
 have aO:w.heap.size+1<u.heap.size:=p1
 have j:=Hd (show Below w.heap.size w u/\KD u w.heap.size d (K4 u (w.heap.size+1) (.slice none 0 0) (.slice none 0 0) (.int .i64 0) (.int .i64 0) (u.frozen? ⟨w.heap.size+1,0,none⟩=false/\u.frozen? ⟨w.heap.size+1,1,none⟩=false/\u.frozen? ⟨w.heap.size+1,2,none⟩=false/\u.frozen? ⟨w.heap.size+1,3,none⟩=false/\w.heap.size+1<u.heap.size)) from ⟨hB,K,c1,c2,c3,R,e1,e2,e3,f0,Z,f2,f3,hl⟩)
 clear hl hB ax ak
 have g:KDe u w.heap.size d:=⟨K,c1,c2,c3⟩
 clear K c1 c2 c3
 go_cut [] (fun wx=>Fp w.heap.size M w wx)
 case first =>
  go_region_held3 (fun w'=>KDe w' w.heap.size d)
   (first
    | with_reducible exact l7 g
    | with_reducible exact l7 (dD _ g)
    | with_reducible exact l7 (dD _ (dD _ g))
    | with_reducible exact l7 (dD _ (dD _ (dD _ g)))
    | with_reducible exact l7 (dD _ (dD _ (dD _ (dD _ g))))
    | with_reducible exact (l8 g)
    | with_reducible exact (dD _ (l8 g))
    | with_reducible exact (dD _ (dD _ (l8 g)))
    | with_reducible exact (dD _ (dD _ (dD _ (l8 g))))
    | with_reducible exact (dD _ (dD _ (dD _ (dD _ (l8 g)))))
    | with_reducible exact g
    | with_reducible exact (dD _ g)
    | with_reducible exact (dD _ (dD _ g))
    | with_reducible exact (dD _ (dD _ (dD _ g)))
    | with_reducible exact (dD _ (dD _ (dD _ (dD _ g)))))
   (first
    | (go_at_call 147;(with_reducible refine (aq.out _).mono ?_);rintro e w2 ⟨rfl,H⟩;(first|(with_reducible have B:=kU H j.out)|(with_reducible have B:=kU H (kI _ j.out))|(with_reducible have B:=kU H (kI _ (kI _ j.out)))|(with_reducible have B:=kU H (kI _ (kI _ (kI _ j.out)))));have z:=H.size;(try simp only [World.size_alloc,vZ] at z);have G:=Hd H;have q:=Hd (aD H (l6 (by first|exact D.out|exact aW _ D.out|exact aW _ (aW _ D.out)|exact aW _ (aW _ (aW _ D.out)))));clear H g j R e1 e2 e3 f0 Z f2 f3 p1 p2 p3 p4 p5 p6;have j:=Hd B;obtain ⟨hB,K,c1,c2,c3,R,e1,e2,e3,f0,Z,f2,f3,hl⟩:=B;obtain ⟨p1,p2,p3,p4,p5,p6⟩:=yO (a:=w.heap.size) (b:=w2.heap.size) (by omega);clear hl hB;have g:KDe w2 w.heap.size d:=⟨K,c1,c2,c3⟩;clear K c1 c2 c3))
  all_goals
   go_wp2_with fail
   go_meet
   clear R e1 e2 e3 f0 Z f2 f3
   refine CL (by with_reducible first|exact (kF q.out)|exact (aW _ (kF q.out))|exact (aW _ (aW _ (kF q.out)))|exact (aW _ (aW _ (aW _ (kF q.out))))|exact (aW _ (aW _ (aW _ (aW _ (kF q.out)))))) (by repeat (first|(with_reducible refine jg ?_;(simp only [World.size_alloc,kW]);done)|with_reducible refine aW _ ?_|with_reducible refine oW _ ?_ (by simp only;omega)|with_reducible refine aD G.out ?_|with_reducible refine l6 ?_)) ?_ ?_ ?_ ?_ ?_ ?_
   ·repeat (first
     | (with_reducible refine jg ?_;(simp only [World.size_alloc,kW]);done)
     | with_reducible refine aW _ ?_
     | with_reducible refine oW _ ?_ (by simp only;omega)
     | with_reducible refine aD G.out ?_
     | with_reducible refine l6 ?_)
   ·repeat (first
     | (with_reducible refine jg ?_;(simp only [World.size_alloc,kW]);done)
     | with_reducible refine aW _ ?_
     | with_reducible refine oW _ ?_ (by simp only;omega)
     | with_reducible refine aD G.out ?_
     | with_reducible refine l6 ?_)
   ·repeat (first
     | (with_reducible refine jg ?_;(simp only [World.size_alloc,kW]);done)
     | with_reducible refine aW _ ?_
     | with_reducible refine oW _ ?_ (by simp only;omega)
     | with_reducible refine aD G.out ?_
     | with_reducible refine l6 ?_)
   all_goals first|omega|(with_reducible first|exact (kV j.out.1)|exact (aB (kV j.out.1) _)|exact (aB (aB (kV j.out.1) _) _)|exact (aB (aB (aB (kV j.out.1) _) _) _)|exact (aB (aB (aB (aB (kV j.out.1) _) _) _) _)|exact ((kV j.out.1)).drew|exact ((aB (kV j.out.1) _)).drew|exact ((aB (aB (kV j.out.1) _) _)).drew|exact ((aB (aB (aB (kV j.out.1) _) _) _)).drew|exact ((aB (aB (aB (aB (kV j.out.1) _) _) _) _)).drew)
 case rest =>
  clear R e1 e2 e3 f0 Z f2 f3 p1 p2 p3 p4 p5 p6 g
  obtain ⟨gm,gl,g0,g1,Y,⟨k1,k2,k3,k4⟩,⟨l1,l2,l3,l4⟩,⟨n1,n2,n3,n4,n5,n6⟩,ag⟩:=hcut
  have d0:=aF Y (k:=0) rfl
  have d1:=aF Y (k:=1) rfl
  have d2:=aF Y (k:=2) rfl
  have d3:=aF Y (k:=3) rfl
  have HP:=Hd (vY ag ⟨l1,l2,l3,l4⟩ ⟨n1,n2,n3,n4,n5,n6⟩ k1 k2 k3 k4)
  clear Y k1 k2 k3 k4 ag U I
  go_wp2_with fail
  exact bodyPost_ret (v := .agg #[.slice (some ⟨gm,0,none⟩) M M,.slice (some ⟨gl,0,none⟩) 2 2,.int .i64 0,.int .i64 0]) (by simp [results,Tryz.results71,go_sem,d0,d1,d2,d3]) rfl HP.out
end Go.Proofs.YtofihjoanjkdmaaGreat
