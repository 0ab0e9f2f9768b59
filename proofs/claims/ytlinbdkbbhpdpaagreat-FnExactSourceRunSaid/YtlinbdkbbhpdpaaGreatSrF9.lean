/- The order of evaluation, step by step: plain lemmas. The blocks of a tile that is being decoded: what they hold and how they change. Plain lemmas. Taking one number out of a row of numbers among the pieces: append(xs[:k], xs[k+1:]...). The order of evaluation in the program (printed by mksr8.py). Flat modules in the program (printed by mksr9.py). -/
import Derived.Deep.RegionLaw
import Derived.Deep.Upon
import Derived.Test.YtlinbdkbbhpdpaaGreatEmpty
import Derived.Test.YtlinbdkbbhpdpaaGreatSep
import Derived.Test.YtlinbdkbbhpdpaaGreatSrF2
import Derived.Test.YtlinbdkbbhpdpaaGreatSrF7
import Derived.Test.YtlinbdkbbhpdpaaGreatSrW
namespace Go.Proofs.YtlinbdkbbhpdpaaGreat
set_option maxRecDepth 100000
open Go.RowKit

def lenOf:Value→Nat
 | .slice _ n _=>n
 | _=>0
def natI (l:List Nat):List Int:=l.map fun (i:Nat)=>(i:Int)
theorem natI_len (l:List Nat):(natI l).length=l.length:=by simp [natI]
theorem natI_get {l:List Nat} {k:Nat} (h:k<l.length):(natI l)[k]?.getD 0=((l[k]?.getD 0:Nat):Int):=by
 unfold natI
 rw [List.getElem?_map,List.getElem?_eq_getElem h];rfl
theorem natI_snoc (l:List Nat) (k:Nat):natI (l++[k])=natI l++[(k:Int)]:=by simp [natI]
theorem natI_erase (l:List Nat) (k:Nat):natI (l.eraseIdx k)=(natI l).eraseIdx k:=by
 unfold natI
 rw [List.eraseIdx_eq_take_drop_succ,List.eraseIdx_eq_take_drop_succ,List.map_append,List.map_take,List.map_drop]
section
variable {m:MdT} {todo out:List Nat} {R:Option (List Nat)} {k:Nat}
theorem ev_done (h:evRun m todo.length todo out=R) (h0:todo.length=0):R=some out:=by
 obtain rfl:=List.eq_nil_of_length_eq_zero h0
 rw [List.length_nil,evRun,if_pos rfl] at h
 exact h.symm
theorem ev_none (h:evRun m todo.length todo out=R) (h0:0<todo.length) (hall:∀j,j<todo.length→freeB m todo (todo[j]?.getD 0)=false):R=none:=by
 obtain ⟨n,hn⟩:∃n,todo.length=n+1:=⟨todo.length - 1,by omega⟩
 have hne:¬todo=[]:=fun e=>by rw [e] at h0;simp at h0
 have hk:todo.findIdx? (freeB m todo)=none:=by
  rw [List.findIdx?_eq_none_iff]
  intro x hx
  obtain ⟨j,hj,rfl⟩:=List.getElem_of_mem hx
  have:=hall j hj
  rwa [List.getElem?_eq_getElem hj,Option.getD_some] at this
 rw [hn,evRun,if_neg hne,hk] at h
 exact h.symm
theorem ev_hit (h:evRun m todo.length todo out=R) (hk:k<todo.length) (hf:freeB m todo (todo[k]?.getD 0)=true) (hall:∀j,j<k→freeB m todo (todo[j]?.getD 0)=false):evRun m (todo.eraseIdx k).length (todo.eraseIdx k) (out++[todo[k]?.getD 0])=R:=by
 obtain ⟨n,hn⟩:∃n,todo.length=n+1:=⟨todo.length - 1,by omega⟩
 have hne:¬todo=[]:=fun e=>by rw [e] at hk;simp at hk
 have hi:todo.findIdx? (freeB m todo)=some k:=by
  rw [List.findIdx?_eq_some_iff_getElem]
  refine ⟨hk,by rwa [List.getElem?_eq_getElem hk,Option.getD_some] at hf,fun j hj=>?_⟩
  have:=hall j hj
  rw [List.getElem?_eq_getElem (by omega),Option.getD_some] at this
  simp [this]
 rw [hn,evRun,if_neg hne,hi] at h
 rw [List.length_eraseIdx_of_lt hk,hn]
 exact h
theorem all_snoc {p:Nat→Bool} {l:List Nat} {j:Nat} (h:j<l.length):(l.take (j+1)).all p=((l.take j).all p && p (l[j]?.getD 0)):=by
 rw [List.take_add_one,List.getElem?_eq_getElem h,List.all_append]
 simp
end
/-- One module alone is a design. -/
theorem one_md {w:World} {m:MdT} {SA AA JA MA:Option Addr} {sn sc an ac jn jc mn mc:Nat} (h:MdRd w m SA AA JA MA sn sc an ac jn jc mn mc) :
  RdC (w.alloc (.cells #[.slice SA sn sc,.slice AA an ac,.slice JA jn jc,.slice MA mn mc] 108)) (w.alloc (.cells #[.slice SA sn sc,.slice AA an ac,.slice JA jn jc,.slice MA mn mc] 108)).heap.size (celMd [m]) (.slice (some ⟨w.heap.size,0,none⟩) 1 1):=by
 have hb:=below_new (Below.refl w.heap.size w) (.cells #[.slice SA sn sc,.slice AA an ac,.slice JA jn jc,.slice MA mn mc] 108)
 have h2:=h.below hb
 unfold celMd
 rw [rdC_row]
 refine ⟨_,1,1,rfl,rfl,.inr ⟨w.heap.size,0,[.slice SA sn sc,.slice AA an ac,.slice JA jn jc,.slice MA mn mc],rfl,by simp,fun j u hu=>?_,?_⟩⟩
 ·exact cell_heap (heap_new w _) (by rw [←Array.getElem?_toList,Nat.zero_add];exact hu)
 ·show RdL _ _ [celSg m.sigs,celAs m.asgs,celIn m.insts,celMm m.mems] _
  exact rdL_cons.2 ⟨_,_,rfl,h2.sg,rdL_cons.2 ⟨_,_,rfl,h2.asg,rdL_cons.2 ⟨_,_,rfl,h2.ins,rdL_cons.2 ⟨_,_,rfl,h2.mm,rdL_nil.2 rfl⟩⟩⟩⟩
/-- A row of numbers among the pieces: its block, and that it has room for its numbers. -/
theorem Sepa.cap {W w:World} {ps:List Pc} (h:Sepa W w ps) (j:Nat) {xs:List Int} {A:Option Addr} {n c:Nat} (hj:ps[j]?=some (.cel (celI xs) (.slice A n c))) (hn:0<n):∃g,A=some ⟨g,0,none⟩∧n≤c∧c≤9223372036854775807:=by
 obtain ⟨-,h1⟩:=h.owned j hj
 rcases h1 with ⟨_,h2⟩|⟨g,cap,cur,h2,_,_,h3,h4,_⟩
 ·omega
 ·injection h2 with e1 e2 e3
  subst e3
  unfold maxLen at h4
  exact ⟨g,e1,h3,by omega⟩
end Go.Proofs.YtlinbdkbbhpdpaaGreat

namespace Go.Proofs.YtlinbdkbbhpdpaaGreat
set_option maxRecDepth 100000
open Go.RowKit

abbrev tileArr (gm gl M:Nat) (pad ram:Int):Array Value:=#[.slice (some ⟨gm,0,none⟩) M M,.slice (some ⟨gl,0,none⟩) 2 2,.int .i64 pad,.int .i64 ram]
abbrev lesArr (g0 g1:Nat) (a0 b0 c0 a1 b1 c1:Int):Array Value:=#[.slice (some ⟨g0,0,none⟩) 4 4,.int .i64 a0,.int .i64 b0,.int .i64 c0,.slice (some ⟨g1,0,none⟩) 4 4,.int .i64 a1,.int .i64 b1,.int .i64 c1]
/-- The numbers of the blocks: reader, result, tile, its lists. -/
structure Bk where
 g:Nat
 gr:Nat
 gc:Nat
 gm:Nat
 gl:Nat
 g0:Nat
 g1:Nat
/-- What is being made: the lists and numbers so far. -/
structure Tl where
 mux:List Int
 s0:List Int
 s1:List Int
 a0:Int
 b0:Int
 c0:Int
 a1:Int
 b1:Int
 c1:Int
 pad:Int
 ram:Int
structure Sep (k:Bk) (lo:Nat):Prop where
 le:lo≤k.g∧lo≤k.gr∧lo≤k.gc∧lo≤k.gm∧lo≤k.gl∧lo≤k.g0∧lo≤k.g1
 n1:k.g≠k.gr∧k.g≠k.gc∧k.g≠k.gm∧k.g≠k.gl∧k.g≠k.g0∧k.g≠k.g1
 n2:k.gr≠k.gc∧k.gr≠k.gm∧k.gr≠k.gl∧k.gr≠k.g0∧k.gr≠k.g1
 n3:k.gc≠k.gm∧k.gc≠k.gl∧k.gc≠k.g0∧k.gc≠k.g1
 n4:k.gm≠k.gl∧k.gm≠k.g0∧k.gm≠k.g1
 n5:k.gl≠k.g0∧k.gl≠k.g1∧k.g0≠k.g1
structure DW (w:World) (k:Bk) (A:Option Addr) (n c p M:Nat) (t:Tl):Prop where
 r:Rdr w k.g A n c p
 res:w.heap[k.gr]?=some (.cells #[.slice none 0 0,.slice none 0 0,.int .i64 0,.int .i64 0] 67 (0,0))
 tile:w.heap[k.gc]?=some (.cells (tileArr k.gm k.gl M t.pad t.ram) 67 (0,0))
 mux:w.heap[k.gm]?=some (.cells (arr t.mux) 3 (0,0))
 les:w.heap[k.gl]?=some (.cells (lesArr k.g0 k.g1 t.a0 t.b0 t.c0 t.a1 t.b1 t.c1) 71 (0,0))
 s0:w.heap[k.g0]?=some (.cells (arr t.s0) 3 (0,0))
 s1:w.heap[k.g1]?=some (.cells (arr t.s1) 3 (0,0))
theorem DW.drew {w:World} {k:Bk} {A:Option Addr} {n c p M:Nat} {t:Tl} (h:DW w k A n c p M t):DW w.drew k A n c p M t:=⟨h.r,h.res,h.tile,h.mux,h.les,h.s0,h.s1⟩
structure DT (w:World) (k:Bk) (t:Tl):Prop where
 mux:w.heap[k.gm]?=some (.cells (arr t.mux) 3 (0,0))
 les:w.heap[k.gl]?=some (.cells (lesArr k.g0 k.g1 t.a0 t.b0 t.c0 t.a1 t.b1 t.c1) 71 (0,0))
 s0:w.heap[k.g0]?=some (.cells (arr t.s0) 3 (0,0))
 s1:w.heap[k.g1]?=some (.cells (arr t.s1) 3 (0,0))
theorem DW.dt {w:World} {k:Bk} {A:Option Addr} {n c p M:Nat} {t:Tl} (h:DW w k A n c p M t):DT w k t:=⟨h.mux,h.les,h.s0,h.s1⟩
/-- A finished tile: what the call owns. -/
theorem DT.done {w:World} {k:Bk} {lo M:Nat} {t:Tl} (h:DT w k t) (hs:Sep k lo) (hm:t.mux.length=M) (hM:M≤maxLen) (h0:t.s0.length=4) (h1:t.s1.length=4) :
  OwnsL lo w.heap.size w (Tile.cells ⟨t.mux,[⟨t.s0,t.a0,t.b0,t.c0⟩,⟨t.s1,t.a1,t.b1,t.c1⟩],t.pad,t.ram⟩) (tileArr k.gm k.gl M t.pad t.ram).toList:=by
 obtain ⟨l1,l2,l3,l4,l5,l6,l7⟩:=hs.le
 obtain ⟨d1,d2,d3⟩:=hs.n4
 obtain ⟨e1,e2,e3⟩:=hs.n5
 have om:OwnC w (celI t.mux) (.slice (some ⟨k.gm,0,none⟩) M M) [k.gm]:=ownC_ints.2 ⟨Own.arr h.mux (Nat.zero_le _) hM hm,rfl⟩
 have o0:OwnC w (celI t.s0) (.slice (some ⟨k.g0,0,none⟩) 4 4) [k.g0]:=ownC_ints.2 ⟨Own.arr h.s0 (Nat.zero_le _) (by unfold maxLen;omega) h0,rfl⟩
 have o1:OwnC w (celI t.s1) (.slice (some ⟨k.g1,0,none⟩) 4 4) [k.g1]:=ownC_ints.2 ⟨Own.arr h.s1 (Nat.zero_le _) (by unfold maxLen;omega) h1,rfl⟩
 have ci:∀x:Int,OwnC w (.int x) (.int .i64 x) []:=fun x=>ownC_int.2 ⟨rfl,rfl⟩
 have ol:OwnC w (celE [⟨t.s0,t.a0,t.b0,t.c0⟩,⟨t.s1,t.a1,t.b1,t.c1⟩]) (.slice (some ⟨k.gl,0,none⟩) 2 2) [k.gl,k.g0,k.g1]:=by
  unfold celE
  rw [ownC_row]
  refine ⟨_,2,2,(lesArr k.g0 k.g1 t.a0 t.b0 t.c0 t.a1 t.b1 t.c1).toList,[k.g0,k.g1],rfl,⟨rfl,.inr ⟨k.gl,2,_,rfl,Nat.zero_le _,h.les,Nat.le_refl _,by unfold maxLen;omega,rfl,rfl⟩⟩,rfl,?_⟩
  show OwnL w [celI t.s0,.int t.a0,.int t.b0,.int t.c0,celI t.s1,.int t.a1,.int t.b1,.int t.c1] _ _
  simp only [ownL_cons,ownL_nil]
  exact ⟨_,_,[k.g0],[k.g1],rfl,rfl,o0,_,_,[],[k.g1],rfl,rfl,ci _,_,_,[],[k.g1],rfl,rfl,ci _,_,_,[],[k.g1],rfl,rfl,ci _,_,_,[k.g1],[],rfl,rfl,o1,_,_,[],[],rfl,rfl,ci _,_,_,[],[],rfl,rfl,ci _,_,_,[],[],rfl,rfl,ci _,rfl,rfl⟩
 refine ⟨[k.gm,k.gl,k.g0,k.g1],?_,by simp [d1,d2,d3,e1,e2,e3],fun x hx=>?_⟩
 ·show OwnL w [celI t.mux,celE _,.int t.pad,.int t.ram] _ _
  simp only [ownL_cons,ownL_nil]
  exact ⟨_,_,[k.gm],[k.gl,k.g0,k.g1],rfl,rfl,om,_,_,[k.gl,k.g0,k.g1],[],rfl,rfl,ol,_,_,[],[],rfl,rfl,ci _,_,_,[],[],rfl,rfl,ci _,rfl,rfl⟩
 ·have q1:=heap_lt0 h.mux
  have q2:=heap_lt0 h.les
  have q3:=heap_lt0 h.s0
  have q4:=heap_lt0 h.s1
  simp only [List.mem_cons,List.not_mem_nil,or_false] at hx
  omega
end Go.Proofs.YtlinbdkbbhpdpaaGreat

namespace Go.Proofs.YtlinbdkbbhpdpaaGreat
set_option maxRecDepth 100000
open Go.RowKit

theorem only_setCells (g:Nat):∀(L:List Value) (o:Nat) (w:World),Only [g] w (w.setCells g o L)
 | [],_,w=>Only.refl _ w
 | v :: L,o,w=>(only_set (p:=⟨g,o,none⟩) (by simp) v).trans (only_setCells g L (o+1) _)
theorem set_mid {α:Type} {l L:List α} {o:Nat} {v:α} (ho:o<l.length):(l.set o v).take (o+1)++L++(l.set o v).drop (o+1+L.length)=l.take o++v :: L++l.drop (o+(L.length+1)):=by
 have e:l.set o v=l.take o++v :: l.drop (o+1):=by rw [List.set_eq_take_append_cons_drop,if_pos ho]
 have hl:(l.take o).length=o:=by simp;omega
 rw [e,List.take_append,List.drop_append,hl,show o+1 - o=1 by omega,show o+1+L.length - o=L.length+1 by omega,List.take_of_length_le (l:=l.take o) (by omega),List.drop_of_length_le (l:=l.take o) (by omega),List.drop_succ_cons,List.drop_drop,show o+1+L.length=o+(L.length+1) by omega]
 simp
theorem heap_setCells {g:Nat} {t:TypeId}:∀(L:List Value) (o:Nat) (w:World) (cs:Array Value),w.heap[g]?=some (.cells cs t (0,0))→o+L.length≤cs.size →
  ∃cs':Array Value,(w.setCells g o L).heap[g]?=some (.cells cs' t (0,0))∧cs'.size=cs.size∧cs'.toList=cs.toList.take o++L++cs.toList.drop (o+L.length)
 | [],o,w,cs,h,_=>⟨cs,h,rfl,by simp⟩
 | v :: L,o,w,cs,h,hl=>by
  rw [List.length_cons] at hl
  obtain ⟨cs',h1,h2,h3⟩:=heap_setCells L (o+1) (w.setCell ⟨g,o,none⟩ v) (cs.setIfInBounds o v) (heap_set h o v) (by simp;omega)
  refine ⟨cs',h1,by simpa using h2,?_⟩
  rw [h3,Array.toList_setIfInBounds,List.length_cons]
  exact set_mid (by simp;omega)
section
variable {ops:Array Oper} {o:Oper} {a:Act} {Q:Exit→Act→World→Prop} {K:Act→World→Prop} {E:Prop} {w W:World}
theorem step_sepDel (hgd:o.guard=none) (s x:Operand)
  (ho:o.op = .call { callee := .builtin .append,args:=#[s,x],argTypes:=#[29,29] })
  (ps:List Pc) (S:Sepa W w ps) (i k n c m c':Nat) (g:Nat) (ad:Addr) (xs:List Int) (hi:ps[i]?=some (.cel (celI xs) (.slice (some ⟨g,0,none⟩) n c))) (hk:k<n) (hs:a.eval s = .slice (some ⟨g,0,none⟩) k c) (hx:a.eval x = .slice (some ad) m c') (hm:k+1+m=n) (had:0<m→ad=⟨g,k+1,none⟩)
  (h:∀w',Sepa W w' (ps.set i (.cel (celI (xs.eraseIdx k)) (.slice (some ⟨g,0,none⟩) (n - 1) c)))→w.heap.size≤w'.heap.size→K (a.put o.dst (.slice (some ⟨g,0,none⟩) (n - 1) c)) w') :
  if Region.wanted o (yielded ops a.tmps)=true then Oper.wp Tryz.prog o a w K Q else E:=by
 obtain ⟨i0,hi0,_,hz1,_⟩:=info_parts int_info
 obtain ⟨F,k1,k2,k3,k4⟩:=S.part i hi
 obtain ⟨hown,rfl⟩:=ownC_ints.1 k1
 have hlen:=hown.len
 rcases hown.2 with ⟨hv,_⟩|⟨g',cap,cur,hv,_,hh,hnc,hcm,hsz,ht⟩
 ·cases hv
 ·injection hv with hA _ hc
  injection hA with hA
  injection hA with hA
  subst hA hc
  rw [Nat.mul_one] at hsz ht
  have hcell:∀j,j<n→w.cell? ⟨g,j,none⟩=some (.int .i64 (xs[j]?.getD 0)):=fun j hj=>by
   obtain ⟨b,o',e,_,hc⟩:=hown.ints.2 (by omega)
   injection e with e
   injection e with e1 e2
   subst e1 e2
   have:=hc j hj
   rwa [Nat.zero_add] at this
  have hcur:∀j,j<c→(w.cell? ⟨g,j,none⟩).isSome=true∧w.frozen? ⟨g,j,none⟩=false:=fun j hj=>by
   refine ⟨?_,frozen_heap hh j⟩
   rw [cell_heap (k:=j) hh (Array.getElem?_eq_getElem (by omega))]
   rfl
  have hnews:((xs.drop (k+1)).map (Value.int .i64)).length=m:=by simp;omega
  refine step_append_room hgd s x 29 ho 3 i0 1 Tryz.underlying29 hi0 hz1 g 0 k c hs ad m c' ((xs.drop (k+1)).map (Value.int .i64)) hx (by rw [hnews,Nat.mul_one]) (fun j u hu=>?_) (fun u hu=>?_) (by omega) (fun j hj=>?_) ?_
  ·have hj:j<m:=by rw [←hnews];exact (List.getElem?_eq_some_iff.1 hu).1
   rw [had (by omega),Addr.add_lit,hcell (k+1+j) (by omega),←hu]
   simp [List.getElem?_drop,List.getElem?_eq_getElem (show k+1+j<xs.length by omega)]
  ·obtain ⟨y,_,rfl⟩:=List.mem_map.1 hu
   rfl
  ·rw [hnews] at hj
   rw [Nat.zero_add,Nat.mul_one]
   exact hcur (k+j) (by omega)
  ·rw [Nat.zero_add,Nat.mul_one,show k+m=n - 1 by omega]
   obtain ⟨cs',h1,h2,h3⟩:=heap_setCells ((xs.drop (k+1)).map (Value.int .i64)) k w cur hh (by rw [hnews];omega)
   refine h _ (k4 _ _ (blk (some ⟨g,0,none⟩)) (ownC_ints.2 ⟨⟨by rw [List.length_map,List.length_eraseIdx,if_pos (by omega)];omega,.inr ⟨g,c,cs',rfl,Nat.zero_le _,h1,by omega,hcm,by rw [Nat.mul_one,h2,hsz],?_⟩⟩,rfl⟩) k2 (fun k hk => .inl hk) (only_setCells g _ k w)) (only_setCells g _ k w).size
   rw [Nat.mul_one,h3,hnews,List.eraseIdx_eq_take_drop_succ,List.map_append]
   have hkl:(cur.toList.take k).length=k:=by simp;omega
   have hL:(cur.toList.take k++(xs.drop (k+1)).map (Value.int .i64)).length=n - 1:=by rw [List.length_append,hkl,hnews];omega
   rw [List.take_append_of_le_length (by rw [hL];exact Nat.le_refl _),List.take_of_length_le (by rw [hL];exact Nat.le_refl _)]
   congr 1
   rw [List.map_take,←ht,List.take_take,Nat.min_eq_left (by omega)]
end
end Go.Proofs.YtlinbdkbbhpdpaaGreat

namespace Go.Proofs.YtlinbdkbbhpdpaaGreat
set_option maxRecDepth 100000
open Go.RowKit

set_option maxHeartbeats 4000000 in
theorem evalOrder_any (m:MdT) (SA AA JA MA:Option Addr) (sn sc an ac jn jc mn mc:Nat) (w:World) (h:MdRd w m SA AA JA MA sn sc an ac jn jc mn mc) :
  Calls Tryz.prog 163 #[.agg #[.slice SA sn sc,.slice AA an ac,.slice JA jn jc,.slice MA mn mc]] w fun e w'=>(∃o A c,evalOrd m=some o∧e = .returned (.tuple #[.slice A o.length c,.bool true])∧Sepa w w' [.cel (celI (natI o)) (.slice A o.length c)])∨(evalOrd m=none∧(∃A c,e = .returned (.tuple #[.slice A 0 c,.bool false]))∧Below w.heap.size w w'):=by
 have HB0:=Lib.hid (below_new (Below.refl w.heap.size w) (.cells #[.slice SA sn sc,.slice AA an ac,.slice JA jn jc,.slice MA mn mc] 108))
 have HXB:=Lib.hid (heap_new w (.cells #[.slice SA sn sc,.slice AA an ac,.slice JA jn jc,.slice MA mn mc] 108))
 have HL1:=Lib.hid h.lens.1
 have HL2:=Lib.hid h.lens.2.1
 have HL3:=Lib.hid h.lens.2.2.1
 have HM:=Lib.hid h
 clear h
 by_cases hj0:jn=0
 ·have HJ0:Hid (m.insts.length=0):=HL3.out.trans hj0
  subst hj0
  go_enter Tryz.func163,Tryz.ntmps163
  go_upto_region 1 with fail
  generalize w.alloc (.cells #[.slice SA sn sc,.slice AA an ac,.slice JA 0 jc,.slice MA mn mc] 108)=W9 at *
  have hx:=HXB.out
  have x0:=cell_heap (k:=0) hx rfl
  have x1:=cell_heap (k:=1) hx rfl
  have x2:=cell_heap (k:=2) hx rfl
  have x3:=cell_heap (k:=3) hx rfl
  have lx:=heap_lt0 hx
  clear hx
  have HR1:=Lib.hid (one_md (HM.out.below HB0.out))
  have HBA:=Lib.hid (below_new HB0.out (.cells #[.slice SA sn sc,.slice AA an ac,.slice JA 0 jc,.slice MA mn mc] 108))
  have HXA:=Lib.hid (heap_al (.cells #[.slice SA sn sc,.slice AA an ac,.slice JA 0 jc,.slice MA mn mc] 108) HXB.out)
  go_wp2_with fail
  with_reducible refine (designOk_any [m] _ 1 1 _ HR1.out (by omega)).mono ?_
  by_cases hds:DsFit [m]
  ·rw [tb_true hds]
   rintro _ w1 ⟨rfl,b1⟩
   have HB1:=Lib.hid (below_tr HBA.out b1)
   have HX1:=Lib.hid (heap_tr b1 HXA.out)
   clear b1 x0 x1 x2 x3 lx
   have hcn:MdCnt m:=hds.one.cnt.2 0 (by simp)
   have hs30:sn≤30:=by have h1:=hcn.sg;rw [HL1.out] at h1;exact h1
   have ha30:an≤30:=by have h1:=hcn.asg;rw [HL2.out] at h1;exact h1
   clear hcn
   have hx:=HX1.out
   have x1:=cell_heap (k:=1) hx rfl
   have lx:=heap_lt0 hx
   clear hx
   go_wp2_with fail
   clear x1 lx
   go_loopw [4,28] (fun v i wr=>∃(k:Nat) (A:Option Addr) (c:Nat),k≤an∧i = .int .i64 (k:Int)∧v = .slice A (todoTo m k).length c∧Sepa w1 wr [.cel (celI (natI (todoTo m k))) (.slice A (todoTo m k).length c)]) (fun _ i _=>an - (intOf i).toNat)
   case atStart=>exact ⟨0,none,0,by omega,rfl,rfl,(Sepa.refl w1).pushNil 3 1⟩
   case round =>
    obtain ⟨k,A1,c1',hk,rfl,rfl,hs⟩:=hrel
    have HS:=Lib.hid hs
    have HB:=Lib.hid (below_tr HB1.out hs.bel)
    clear hs
    by_cases hlt:k<an
    ·have hdk:decide ((k:Int)<(an:Int))=true:=by simp;omega
     have i0:(0:Int)≤(k:Int):=by omega
     have i1:(k:Int)<(an:Int):=by omega
     have hkl:k<m.asgs.length:=by rw [HL2.out];exact hlt
     obtain ⟨ba,oa,QA,qn,qc,hAA,hba,c0,c1,r0⟩:=HM.out.asg.asE (k:=k) hkl
     subst hAA
     rw [←HB.out.cell (p:=⟨ba,oa+k * 2,none⟩) hba] at c0
     rw [←HB.out.cell (p:=⟨ba,oa+k * 2+1,none⟩) hba] at c1
     have lba:=below_lt HB.out hba
     have htg:=tgt_in hds hkl
     have HTK:Hid (todoTo m (k+1)=todoTo m k++if (sgK m.sigs (m.asgs[k]?.getD AsT.zero).target.toNat).kind=3 then [] else [k]):=rfl
     have HLN:Hid ((todoTo m k).length≤1099511627776):=by show _≤_;have:=todoTo_len m k;omega
     unfold asK at htg
     generalize (m.asgs[k]?.getD AsT.zero).target=tg at *
     clear hkl hba r0
     obtain ⟨Q,rfl⟩:∃Q:Nat,tg=(Q:Int):=⟨tg.toNat,by omega⟩
     rw [Int.toNat_natCast] at HTK
     have hQs:Q<sn:=by have h1:=HL1.out;omega
     obtain ⟨bs,os,hSA,hbs,z0,z1,z2⟩:=HM.out.sg.sgE (k:=Q) (by rw [HL1.out];exact hQs)
     have HKD:Hid ((sgK m.sigs Q).kind=(m.sigs[Q]?.getD SgT.zero).kind):=rfl
     rw [HKD.out] at HTK
     generalize (m.sigs[Q]?.getD SgT.zero).kind=kd at *
     subst hSA
     clear z1 z2 HKD htg
     have q0:(0:Int)≤(Q:Int):=by omega
     have q1:(Q:Int)<(sn:Int):=by omega
     have HA:=Lib.hid (HS.out.alloc (.cells #[.int .i64 (Q:Int),.slice QA qn qc] 196))
     have hy:=heap_new wr (.cells #[.int .i64 (Q:Int),.slice QA qn qc] 196)
     have y0:=cell_heap (k:=0) hy rfl
     have ly:=heap_lt0 hy
     clear hy
     go_upto_region 7 with fail
     generalize wr.alloc (.cells #[.int .i64 (Q:Int),.slice QA qn qc] 196)=W5 at *
     have hx:=heap_tr HA.out.bel HX1.out
     have x0:=cell_heap (k:=0) hx rfl
     have lx:=heap_lt0 hx
     clear hx
     have z0:=((below_tr HB1.out HA.out.bel).cell (p:=⟨bs,os+Q * 3,none⟩) hbs).trans z0
     have lbs:=below_lt (below_tr HB1.out HA.out.bel) hbs
     by_cases h3:kd=3
     ·have d3:(kd != 3)=false:=by simp [h3]
      rw [if_pos h3,List.append_nil] at HTK
      clear h3
      go_wp2_with fail
      go_roundw
      case rel=>exact ⟨k+1,_,_,by omega,by go_num,by rw [HTK.out],by rw [HTK.out];exact HA.out⟩
      case measure=>simp [intOf];omega
     ·have d3:(kd != 3)=true:=by simp [h3]
      rw [if_neg h3] at HTK
      clear h3
      go_wp2_with (at_builtin;refine wpList_sepPush rfl _ _ rfl _ (HA.out.alloc _) 0 A1 (todoTo m k).length c1' (natI (todoTo m k)) (k:Int) _ (0,0) rfl rfl rfl (heap_new _ _) HLN.out ?_;intro g9 cap w9 S9 hz9;have HS9:=Lib.hid S9;clear S9 hz9)
      go_roundw
      case rel=>exact ⟨k+1,_,_,by omega,by go_num,by rw [HTK.out,List.length_append];rfl,by rw [HTK.out,List.length_append,natI_snoc];exact HS9.out⟩
      case measure=>simp [intOf];omega
    ·have hkn:k=an:=by omega
     have hdk:decide ((k:Int)<(an:Int))=false:=by simp;omega
     clear hlt
     subst k
     have HE0:Hid (evRun m (todoTo m an).length (todoTo m an) []=evalOrd m):=by show _=_;unfold evalOrd;rw [if_pos ⟨HJ0.out,hds⟩,HL2.out]
     go_wp2_with fail
     go_loopw [4,5] (fun v u wr=>∃(todo out:List Nat) (tn:Nat) (A:Option Addr) (c:Nat) (B:Option Addr) (e:Nat),todo.length=tn∧v = .slice A tn c∧u = .slice B out.length e∧Sepa w1 wr [.cel (celI (natI todo)) (.slice A tn c),.cel (celI (natI out)) (.slice B out.length e)]∧evRun m todo.length todo out=evalOrd m∧todo.Pairwise (·<·)∧(∀i∈todo,i<an)∧tn+out.length≤30) (fun v _ _=>lenOf v)
     case atStart=>exact ⟨todoTo m an,[],(todoTo m an).length,_,_,none,0,rfl,rfl,rfl,HS.out.pushNil 3 1,HE0.out,todoTo_sorted m an,fun i hi=>(todoTo_lt hi).1,by have:=todoTo_len m an;simp only [List.length_nil];omega⟩
     case round =>
      obtain ⟨todo,out,tn,A,c,B,e,htn,rfl,rfl,hs,hrun,hsort,hta,hlen⟩:=hrel
      have HS:=Lib.hid hs
      have HBS:=Lib.hid hs.bel
      have HB3:=Lib.hid (below_tr HB1.out hs.bel)
      have HTN:=Lib.hid htn
      have HRUN:=Lib.hid hrun
      have HSO:=Lib.hid hsort
      have HTA:=Lib.hid hta
      clear hs htn hrun hsort hta
      obtain ⟨w3,rfl⟩:∃y,y=wr:=⟨wr,rfl⟩
      by_cases h0:tn=0
      ·have d0:decide (0<tn)=false:=decide_eq_false (by omega)
       have HR:Hid (evalOrd m=some out):=ev_done HRUN.out (by rw [HTN.out];exact h0)
       clear h0
       go_wp2_with fail
       go_ret2
       exact .inl ⟨out,_,_,HR.out,rfl,(HS.out.low HB1.out).sub (.cons _ (.cons_cons _ .slnil))⟩
      ·have d0:decide (0<tn)=true:=decide_eq_true (by omega)
       obtain ⟨gt,rfl,hnc,hc63⟩:=HS.out.cap 0 rfl (by omega)
       go_wp2_with fail
       go_loopw [8,51] (fun v i wr=>∃k:Nat,k≤tn∧i = .int .i64 (k:Int)∧v = .int .i64 (-1)∧Below w3.heap.size w3 wr∧∀j,j<k→freeB m todo (todo[j]?.getD 0)=false) (fun _ i _=>tn - (intOf i).toNat)
       case atStart=>exact ⟨0,by omega,rfl,rfl,Below.refl _ _,fun j hj=>by omega⟩
       case round =>
        obtain ⟨k,hk,rfl,rfl,hb,hall⟩:=hrel
        have HALL:=Lib.hid hall
        have HBW:=Lib.hid hb
        have HB:=Lib.hid (below_tr HB3.out hb)
        clear hb hall
        by_cases hlt:k<tn
        ·have hdk:decide ((k:Int)<(tn:Int))=true:=by simp;omega
         have i0:(0:Int)≤(k:Int):=by omega
         have i1:(k:Int)<(tn:Int):=by omega
         have hpt:=(HS.out.below HBW.out).ints 0 rfl
         obtain ⟨bt2,ot2,hT2,hbt2,hct2⟩:=hpt.2 (by omega)
         injection hT2 with hT2
         injection hT2 with hT2 hT3
         subst hT2 hT3
         have ct:=hct2 k (by omega)
         rw [natI_get (by rw [HTN.out];omega),Nat.zero_add] at ct
         clear hct2 hpt
         obtain ⟨I,hI⟩:∃I,todo[k]?.getD 0=I:=⟨_,rfl⟩
         have hIm:I∈todo:=by rw [←hI,List.getElem?_eq_getElem (by rw [HTN.out];exact hlt)];exact List.getElem_mem _
         have hIa:=HTA.out I hIm
         rw [hI] at ct
         obtain ⟨ba,oa,QI,qin,qic,hAI,hbi,u0,u1,ri⟩:=HM.out.asg.asE (k:=I) (by rw [HL2.out];exact hIa)
         subst hAI
         have HI1:=Lib.hid u1
         have HRI:Hid (RdC w w.heap.size (celOp (asK m I).ops) (.slice QI qin qic)):=Lib.hid ri
         have hq15:qin≤15:=by have h1:=(as_fit hds (show I<m.asgs.length by rw [HL2.out];exact hIa)).2.1;rw [HRI.out.opN] at h1;exact h1
         have I0:(0:Int)≤(I:Int):=by omega
         have I1:(I:Int)<(an:Int):=by omega
         clear u0 u1 ri hIm
         go_wp2_with fail
         clear ct
         go_loopw [11,58] (fun v i wr=>∃j:Nat,j≤tn∧i = .int .i64 (j:Int)∧v = .bool ((todo.take j).all (fun q=>!rdsB (asK m I).ops (asK m q).target))∧Below w3.heap.size w3 wr) (fun _ i _=>tn - (intOf i).toNat)
         case atStart=>exact ⟨0,by omega,rfl,rfl,HBW.out⟩
         case round =>
          obtain ⟨j,hj,rfl,rfl,hb⟩:=hrel
          have HBW:=Lib.hid hb
          have HB:=Lib.hid (below_tr HB3.out hb)
          clear hb
          by_cases hltj:j<tn
          ·have hdj:decide ((j:Int)<(tn:Int))=true:=by simp;omega
           have i0j:(0:Int)≤(j:Int):=by omega
           have i1j:(j:Int)<(tn:Int):=by omega
           have hpt:=(HS.out.below HBW.out).ints 0 rfl
           obtain ⟨bt2,ot2,hT2,hbt2,hct2⟩:=hpt.2 (by omega)
           injection hT2 with hT2
           injection hT2 with hT2 hT3
           subst hT2 hT3
           have ct:=hct2 j (by omega)
           rw [natI_get (by rw [HTN.out];omega),Nat.zero_add] at ct
           clear hct2 hpt
           obtain ⟨J,hJ⟩:∃J,todo[j]?.getD 0=J:=⟨_,rfl⟩
           have hJm:J∈todo:=by rw [←hJ,List.getElem?_eq_getElem (by rw [HTN.out];exact hltj)];exact List.getElem_mem _
           have hJa:=HTA.out J hJm
           have HAS:Hid ((todo.take (j+1)).all (fun q=>!rdsB (asK m I).ops (asK m q).target)=((todo.take j).all (fun q=>!rdsB (asK m I).ops (asK m q).target) && !rdsB (asK m I).ops (asK m J).target)):=by show _=_;rw [all_snoc (by rw [HTN.out];exact hltj),hJ]
           rw [hJ] at ct
           clear hJ hJm
           obtain ⟨bj,oj,QJ,qjn,qjc,hAJ,hbj,u0,u1,rj⟩:=HM.out.asg.asE (k:=J) (by rw [HL2.out];exact hJa)
           injection hAJ with hAJ
           injection hAJ with hAJ hAJ2
           subst hAJ hAJ2
           obtain ⟨tj,htj⟩:∃t,(asK m J).target=t:=⟨_,rfl⟩
           rw [htj] at HAS
           rw [show (m.asgs[J]?.getD AsT.zero).target=tj from htj] at u0
           have u0:=(HB.out.cell (p:=⟨ba,oa+J * 2,none⟩) hbj).trans u0
           have v1:=(HB.out.cell (p:=⟨ba,oa+I * 2+1,none⟩) hbj).trans HI1.out
           have lba:=below_lt HB.out hbj
           clear u1 rj hbj htj
           have J0:(0:Int)≤(J:Int):=by omega
           have J1:(J:Int)<(an:Int):=by omega
           have HRS:=Lib.hid (fun (v:Sub wr)=>readsSignal_any (asK m I).ops QI qin qic tj v.v (HRI.out.below (below_tr HB.out v.h)) (by omega))
           have HFB:=HAS
           obtain ⟨fb,hfb⟩:∃b,(todo.take j).all (fun q=>!rdsB (asK m I).ops (asK m q).target)=b:=⟨_,rfl⟩
           rw [hfb] at HAS
           rw [hfb]
           obtain ⟨rb,hrb⟩:∃b,rdsB (asK m I).ops tj=b:=⟨_,rfl⟩
           rw [hrb] at HAS HRS
           clear hfb hrb HFB
           have hx:=heap_tr (below_tr HBS.out HBW.out) HX1.out
           have x1:=cell_heap (k:=1) hx rfl
           have lx:=heap_lt0 hx
           clear hx
           go_upto_region 19 with fail
           cases fb with
           | false =>
            have hsub:=sub_ne wr
            have hsc:=sub_cell wr
            refine wp_region_below wr (by kernel_rfl) (by kernel_rfl) (Below.refl _ _) ?_
            repeat (go_big_quiet_step (fail))
            refine wpQuiet_nil ?_
            rintro _ ⟨⟨w5,hD⟩,rfl⟩
            clear hsub hsc
            have HB2:=Lib.hid (below_tr HBW.out hD)
            clear hD
            go_wp2_with fail
            go_roundw
            case rel=>exact ⟨j+1,by omega,by go_num,by rw [HAS.out] <;> rfl,HB2.out⟩
            case measure=>simp [intOf];omega
           | true =>
            cases rb with
            | true =>
             have hsub:=sub_ne wr
             have hsc:=sub_cell wr
             refine wp_region_below wr (by kernel_rfl) (by kernel_rfl) (Below.refl _ _) ?_
             repeat (go_big_quiet_step ((first
              | (go_at_call 212;with_reducible exact calls_sub (HRS.out _)))))
             refine wpQuiet_nil ?_
             rintro _ ⟨⟨w5,hD⟩,rfl⟩
             clear hsub hsc
             have HB2:=Lib.hid (below_tr HBW.out hD)
             clear hD
             go_wp2_with fail
             go_roundw
             case rel=>exact ⟨j+1,by omega,by go_num,by rw [HAS.out] <;> rfl,HB2.out⟩
             case measure=>simp [intOf];omega
            | false =>
             have hsub:=sub_ne wr
             have hsc:=sub_cell wr
             refine wp_region_below wr (by kernel_rfl) (by kernel_rfl) (Below.refl _ _) ?_
             repeat (go_big_quiet_step ((first
              | (go_at_call 212;with_reducible exact calls_sub (HRS.out _)))))
             refine wpQuiet_nil ?_
             rintro _ ⟨⟨w5,hD⟩,rfl⟩
             clear hsub hsc
             have HB2:=Lib.hid (below_tr HBW.out hD)
             clear hD
             go_wp2_with fail
             go_roundw
             case rel=>exact ⟨j+1,by omega,by go_num,by rw [HAS.out] <;> rfl,HB2.out⟩
             case measure=>simp [intOf];omega
          ·have hjn:j=tn:=by omega
           have hdj:decide ((j:Int)<(tn:Int))=false:=by simp;omega
           clear hltj
           subst j
           have HFR:Hid ((todo.take tn).all (fun q=>!rdsB (asK m I).ops (asK m q).target)=freeB m todo I):=by show _=_;rw [List.take_of_length_le (by rw [HTN.out];exact Nat.le_refl _)];rfl
           rw [HFR.out]
           by_cases hfr:freeB m todo I=true
           ·rw [hfr]
            have HBF:=HBW
            have hpt:=(HS.out.below HBW.out).ints 0 rfl
            obtain ⟨bt2,ot2,hT2,hbt2,hct2⟩:=hpt.2 (by omega)
            injection hT2 with hT2
            injection hT2 with hT2 hT3
            subst hT2 hT3
            have ct:=hct2 k (by omega)
            rw [natI_get (by rw [HTN.out];omega),Nat.zero_add] at ct
            clear hct2 hpt
            rw [hI] at ct
            have v0:(0:Int)≤(k:Int)+1:=by omega
            have v1:(k:Int)+1≤(tn:Int):=by omega
            have v2:IntKind.i64.wrap ((k:Int)+1)=(k:Int)+1:=IntWalk.i64_in _ (by omega)
            have v3:((k:Int)+1).toNat=k+1:=by omega
            have v4:k≤c:=by omega
            have v5:k+1≤tn:=by omega
            have v6:k+1≤c:=by omega
            have hk0:decide ((k:Int)<0)=false:=decide_eq_false (by omega)
            have HS4:=Lib.hid (HS.out.below HBW.out)
            have HLO:Hid (out.length≤1099511627776):=by show _≤_;omega
            have HEV:=Lib.hid (ev_hit HRUN.out (by rw [HTN.out];exact hlt) (by rw [hI];exact hfr) HALL.out)
            rw [hI] at HEV
            go_upto_region 27 with (at_builtin;refine wpList_sepPush rfl _ _ rfl _ (HS4.out.alloc _) 1 B out.length e (natI out) (I:Int) _ (0,0) rfl rfl rfl (heap_new _ _) HLO.out ?_;intro g9 cap w9 S9 hz9;have HS9:=Lib.hid S9;clear S9 hz9)
            clear ct
            have hcs:(c=k+1)=True∨(c=k+1)=False:=by by_cases h:c=k+1;exact .inl (by simp [h]);exact .inr (by simp [h])
            have HMM:Hid (c=k+1→tn - (k+1)=0):=by intro h;omega
            rcases hcs with hcs|hcs
            all_goals
             have HCS:=Lib.hid hcs
             go_region_held3 (fun _=>True) (trivial)
              (((refine step_sepDel rfl _ _ (by rfl) _ HS9.out.drew 0 k tn c (tn - (k+1)) _ gt _ _ rfl hlt (by rfl) (by rfl) (by omega) (fun h=>by first|rfl|(exfalso;have e:=HMM.out (of_eq_true HCS.out);omega)) ?_);intro w10 S10 hz10;have HS10:=Lib.hid S10;clear S10 hz10))
             go_wp2_with fail
             go_roundw
             case rel=>exact ⟨todo.eraseIdx k,out++[I],tn - 1,_,_,_,_,by rw [List.length_eraseIdx_of_lt (by rw [HTN.out];exact hlt),HTN.out],rfl,by rw [List.length_append];rfl,by rw [natI_erase,natI_snoc,List.length_append];exact HS10.out,HEV.out,erase_sorted HSO.out k,fun i hi=>HTA.out i (List.mem_of_mem_eraseIdx hi),by rw [List.length_append,List.length_singleton];omega⟩
             case measure=>simp [lenOf];omega
           ·have hff:freeB m todo I=false:=by simpa using hfr
            have HG2:=Lib.hid (all_succ HALL.out (show freeB m todo (todo[k]?.getD 0)=false by rw [hI];exact hff))
            rw [hff]
            go_wp2_with fail
            go_roundw
            case rel=>exact ⟨k+1,by omega,by go_num,rfl,HBW.out,HG2.out⟩
            case measure=>simp [intOf];omega
        ·have hkn:k=tn:=by omega
         have hdk:decide ((k:Int)<(tn:Int))=false:=by simp;omega
         clear hlt
         subst k
         have HR:Hid (evalOrd m=none):=ev_none HRUN.out (by rw [HTN.out];omega) (fun j hj=>HALL.out j (by rw [HTN.out] at hj;exact hj))
         go_wp2_with fail
         go_ret2
         exact .inr ⟨HR.out,⟨_,_,rfl⟩,below_tr (below_tr HB1.out HBS.out) HBW.out⟩
  ·rw [tb_false hds]
   rintro _ w1 ⟨rfl,b1⟩
   have HB1:=Lib.hid (below_tr HBA.out b1)
   clear b1 x0 x1 x2 x3 lx
   have HR:Hid (evalOrd m=none):=by show _=_;unfold evalOrd;rw [if_neg fun h=>hds h.2]
   go_wp2_with fail
   go_ret2
   exact .inr ⟨HR.out,⟨_,_,rfl⟩,HB1.out⟩
 ·have d0:decide (0<jn)=true:=decide_eq_true (by omega)
  have HR:Hid (evalOrd m=none):=by show _=_;unfold evalOrd;rw [if_neg fun h=>hj0 (by rw [←HL3.out];exact h.1)]
  clear hj0
  go_enter Tryz.func163,Tryz.ntmps163
  go_upto_region 1 with fail
  generalize w.alloc (.cells #[.slice SA sn sc,.slice AA an ac,.slice JA jn jc,.slice MA mn mc] 108)=W9 at *
  have hx:=HXB.out
  have x2:=cell_heap (k:=2) hx rfl
  have lx:=heap_lt0 hx
  clear hx
  go_wp2_with fail
  go_ret2
  exact .inr ⟨HR.out,⟨_,_,rfl⟩,HB0.out⟩
end Go.Proofs.YtlinbdkbbhpdpaaGreat

namespace Go.Proofs.YtlinbdkbbhpdpaaGreat
set_option maxRecDepth 100000
open Go.RowKit

theorem pwOf_in {m:MdT} (h:DsFit [m]) {kind:Int}:∀x∈pwOf m kind,0≤x∧x≤4:=by
 unfold pwOf
 intro x hx
 split at hx
 ·exact pwTo_in (fun s hs=>h.one.sig s hs) (Nat.le_refl _) hx
 ·simp at hx
theorem memW_zero (m:MdT):memW m 0=0:=rfl
theorem memW_succ {m:MdT} {k:Nat} (h:k<m.mems.length):memW m (k+1)=memW m k+(sgI m (mmK m k).out).width:=by
 unfold memW mmK
 rw [take_snoc (z:=MmT.zero) h,List.map_append,List.map_singleton,sumI_snoc]
theorem memW_in {m:MdT} (h:DsFit [m]):∀{k:Nat},k≤m.mems.length→0≤memW m k∧memW m k≤k * 4
 | 0,_=>by rw [memW_zero];omega
 | k+1,hk=>by
  have h1:=memW_in h (k:=k) (by omega)
  have h2:Drives m (mmK m k).out:=(h.one.mem k hk).2.2.2
  have h3:=(h.one.sig (mmK m k).out.toNat (by have:=h2.1.1;have:=h2.1.2;show _<m.sigs.length;omega)).1.2
  rw [memW_succ hk]
  have h4:(sgI m (mmK m k).out).width=(sgK (mdK [m] 0).sigs (mmK m k).out.toNat).width:=rfl
  omega
set_option maxHeartbeats 4000000 in
theorem flatOk_any (m:MdT) (SA AA JA MA:Option Addr) (sn sc an ac jn jc mn mc:Nat) (w:World) (h:MdRd w m SA AA JA MA sn sc an ac jn jc mn mc) :
  Calls Tryz.prog 108 #[.agg #[.slice SA sn sc,.slice AA an ac,.slice JA jn jc,.slice MA mn mc]] w fun e w'=>e = .returned (.bool (tb (FlatFit m)))∧Below w.heap.size w w':=by
 have HB0:=Lib.hid (below_new (Below.refl w.heap.size w) (.cells #[.slice SA sn sc,.slice AA an ac,.slice JA jn jc,.slice MA mn mc] 108))
 have HXB:=Lib.hid (heap_new w (.cells #[.slice SA sn sc,.slice AA an ac,.slice JA jn jc,.slice MA mn mc] 108))
 have HL1:=Lib.hid h.lens.1
 have HL2:=Lib.hid h.lens.2.1
 have HL4:=Lib.hid h.lens.2.2.2
 have HM:=Lib.hid h
 clear h
 go_enter Tryz.func108,Tryz.ntmps108
 go_upto_region 1 with fail
 generalize w.alloc (.cells #[.slice SA sn sc,.slice AA an ac,.slice JA jn jc,.slice MA mn mc] 108)=W9 at *
 have hx:=HXB.out
 have x0:=cell_heap (k:=0) hx rfl
 have x1:=cell_heap (k:=1) hx rfl
 have x2:=cell_heap (k:=2) hx rfl
 have x3:=cell_heap (k:=3) hx rfl
 have lx:=heap_lt0 hx
 clear hx
 go_wp2_with fail
 refine (evalOrder_any m SA AA JA MA sn sc an ac jn jc mn mc _ (HM.out.below HB0.out)).mono ?_
 rintro _ w1 (⟨od,A0,n0,ho,rfl,S0⟩|⟨ho,⟨A0,n0,rfl⟩,b0⟩)
 ·have HORD:Hid (∃o,evalOrd m=some o):=⟨od,ho⟩
  have hds:=(evalOrd_fit ho).2
  have HDS:=Lib.hid hds
  have HB1':=Lib.hid (below_tr HB0.out S0.bel)
  have HX1:=Lib.hid (heap_tr S0.bel HXB.out)
  clear S0 ho x0 x1 x2 x3 lx
  have hcn:MdCnt m:=hds.one.cnt.2 0 (by simp)
  have hs30:sn≤30:=by have h1:=hcn.sg;rw [HL1.out] at h1;exact h1
  have ha30:an≤30:=by have h1:=hcn.asg;rw [HL2.out] at h1;exact h1
  have hm2:mn≤2:=by have h1:=hcn.mm;rw [HL4.out] at h1;exact h1
  clear hcn hds
  have hx:=HX1.out
  have x0:=cell_heap (k:=0) hx rfl
  have lx:=heap_lt0 hx
  clear hx
  go_wp2_with fail
  clear x0 lx
  go_loopw [22] (fun i wr=>∃k:Nat,k≤sn∧i = .int .i64 (k:Int)∧Below w1.heap.size w1 wr∧(∀s,s<k→(sgK m.sigs s).width≠0)) (fun i _=>sn - (intOf i).toNat)
  case atStart=>exact ⟨0,by omega,rfl,Below.refl _ _,fun s hs=>by omega⟩
  case round =>
   obtain ⟨k,hk,rfl,hb,hall⟩:=hrel
   have HALL:=Lib.hid hall
   have HBW:=Lib.hid hb
   have HB:=Lib.hid (below_tr HB1'.out hb)
   clear hb hall
   by_cases hlt:k<sn
   ·have hdk:decide ((k:Int)<(sn:Int))=true:=by simp;omega
    have i0:(0:Int)≤(k:Int):=by omega
    have i1:(k:Int)<(sn:Int):=by omega
    have hkl:k<m.sigs.length:=by rw [HL1.out];exact hlt
    obtain ⟨bs,os,hSA,hbs,c0,c1,c2⟩:=HM.out.sg.sgE (k:=k) hkl
    subst hSA
    rw [←HB.out.cell (p:=⟨bs,os+k * 3,none⟩) hbs] at c0
    rw [←HB.out.cell (p:=⟨bs,os+k * 3+1,none⟩) hbs] at c1
    rw [←HB.out.cell (p:=⟨bs,os+k * 3+2,none⟩) hbs] at c2
    have lbs:=below_lt HB.out hbs
    have HNO:=Lib.hid (fun (h:¬(sgK m.sigs k).width≠0) (h2:FlatFit m)=>h (h2.wid k hkl))
    have HG:=Lib.hid (fun h:(sgK m.sigs k).width≠0=>all_succ HALL.out h)
    unfold sgK at HNO HG
    generalize m.sigs[k]?.getD SgT.zero=q at *
    obtain ⟨kd,wd,it⟩:=q
    simp only at c0 c1 c2 HNO HG
    clear hkl hbs
    by_cases h0:wd=0
    ·have d0:(wd==0)=true:=by simp [h0]
     have HR:=Lib.hid (HNO.out fun h=>h h0)
     clear h0
     have HBV:=Lib.hid (below_new HBW.out (.cells #[.int .i64 kd,.int .i64 wd,.int .i64 it] 155))
     have HB1:=Lib.hid (below_new HB.out (.cells #[.int .i64 kd,.int .i64 wd,.int .i64 it] 155))
     have hy:=heap_new wr (.cells #[.int .i64 kd,.int .i64 wd,.int .i64 it] 155)
     have HY:=Lib.hid hy
     have y1:=cell_heap (k:=1) hy rfl
     have ly:=heap_lt0 hy
     clear hy
     go_upto_region 7 with fail
     generalize wr.alloc (.cells #[.int .i64 kd,.int .i64 wd,.int .i64 it] 155)=W5 at *
     go_wp2_with fail
     go_ret
     exact ⟨ret_ff HR.out,HB1.out⟩
    ·have d0:(wd==0)=false:=by simp [h0]
     have HG2:=Lib.hid (HG.out h0)
     clear h0
     have HBV:=Lib.hid (below_new HBW.out (.cells #[.int .i64 kd,.int .i64 wd,.int .i64 it] 155))
     have HB1:=Lib.hid (below_new HB.out (.cells #[.int .i64 kd,.int .i64 wd,.int .i64 it] 155))
     have hy:=heap_new wr (.cells #[.int .i64 kd,.int .i64 wd,.int .i64 it] 155)
     have HY:=Lib.hid hy
     have y1:=cell_heap (k:=1) hy rfl
     have ly:=heap_lt0 hy
     clear hy
     go_upto_region 7 with fail
     generalize wr.alloc (.cells #[.int .i64 kd,.int .i64 wd,.int .i64 it] 155)=W5 at *
     go_wp2_with fail
     go_roundw
     case rel=>exact ⟨k+1,by omega,by go_num,HBV.out,HG2.out⟩
     case measure=>simp [intOf];omega
   ·have hkn:k=sn:=by omega
    have hdk:decide ((k:Int)<(sn:Int))=false:=by simp;omega
    clear hlt
    subst k
    have HF1:Hid (∀s,s<m.sigs.length→(sgK m.sigs s).width≠0):=fun i hi=>HALL.out i (by rw [HL1.out] at hi;exact hi)
    have hx:=heap_tr HBW.out HX1.out
    have x1:=cell_heap (k:=1) hx rfl
    have lx:=heap_lt0 hx
    clear hx
    go_wp2_with fail
    clear x1 lx
    go_loopw [33] (fun i wr=>∃k:Nat,k≤an∧i = .int .i64 (k:Int)∧Below w1.heap.size w1 wr∧(∀i,i<k→¬hasPar (asK m i).ops)) (fun i _=>an - (intOf i).toNat)
    case atStart=>exact ⟨0,by omega,rfl,HBW.out,fun i hi=>by omega⟩
    case round =>
     obtain ⟨k,hk,rfl,hb,hall⟩:=hrel
     have HALL:=Lib.hid hall
     have HBW:=Lib.hid hb
     have HB:=Lib.hid (below_tr HB1'.out hb)
     clear hb hall
     by_cases hlt:k<an
     ·have hdk:decide ((k:Int)<(an:Int))=true:=by simp;omega
      have i0:(0:Int)≤(k:Int):=by omega
      have i1:(k:Int)<(an:Int):=by omega
      have hkl:k<m.asgs.length:=by rw [HL2.out];exact hlt
      obtain ⟨ba,oa,QA,qn,qc,hAA,hba,c0,c1,r0⟩:=HM.out.asg.asE (k:=k) hkl
      subst hAA
      rw [←HB.out.cell (p:=⟨ba,oa+k * 2,none⟩) hba] at c0
      rw [←HB.out.cell (p:=⟨ba,oa+k * 2+1,none⟩) hba] at c1
      have lba:=below_lt HB.out hba
      have HR0:Hid (RdC w w.heap.size (celOp (asK m k).ops) (.slice QA qn qc)):=Lib.hid r0
      have hq15:qn≤15:=by have h1:=(as_fit HDS.out hkl).2.1;rw [HR0.out.opN] at h1;exact h1
      have HNO:=Lib.hid (fun (h:hasPar (asK m k).ops) (h2:FlatFit m)=>h2.par k hkl h)
      have HG:=Lib.hid (fun h:¬hasPar (asK m k).ops=>all_succ HALL.out h)
      generalize (m.asgs[k]?.getD AsT.zero).target=tg at *
      generalize (asK m k).ops=ops at *
      clear hkl hba r0
      have HBV:=Lib.hid (below_new HBW.out (.cells #[.int .i64 tg,.slice QA qn qc] 196))
      have HB1:=Lib.hid (below_new HB.out (.cells #[.int .i64 tg,.slice QA qn qc] 196))
      have hy:=heap_new wr (.cells #[.int .i64 tg,.slice QA qn qc] 196)
      have HY:=Lib.hid hy
      have y1:=cell_heap (k:=1) hy rfl
      have ly:=heap_lt0 hy
      clear hy
      go_upto_region 13 with fail
      generalize wr.alloc (.cells #[.int .i64 tg,.slice QA qn qc] 196)=W5 at *
      go_wp2_with fail
      refine (hasParam_any ops QA qn qc _ (HR0.out.below HB1.out) (by omega)).mono ?_
      by_cases hp:hasPar ops
      ·have HR:=Lib.hid (HNO.out hp)
       rw [tb_true hp]
       clear hp
       rintro _ w6 ⟨rfl,b6⟩
       have HB6:=Lib.hid (below_tr HB1.out b6)
       clear b6 c0 c1 y1 ly
       go_wp2_with fail
       go_ret
       exact ⟨ret_ff HR.out,HB6.out⟩
      ·have HG2:=Lib.hid (HG.out hp)
       rw [tb_false hp]
       clear hp
       rintro _ w6 ⟨rfl,b6⟩
       have HB6:=Lib.hid (below_tr HBV.out b6)
       clear b6 c0 c1 y1 ly
       go_wp2_with fail
       go_roundw
       case rel=>exact ⟨k+1,by omega,by go_num,HB6.out,HG2.out⟩
       case measure=>simp [intOf];omega
     ·have hkn:k=an:=by omega
      have hdk:decide ((k:Int)<(an:Int))=false:=by simp;omega
      clear hlt
      subst k
      have HF2:Hid (∀i,i<m.asgs.length→¬hasPar (asK m i).ops):=fun i hi=>HALL.out i (by rw [HL2.out] at hi;exact hi)
      have hx:=heap_tr HBW.out HX1.out
      have x0:=cell_heap (k:=0) hx rfl
      have x1:=cell_heap (k:=1) hx rfl
      have x2:=cell_heap (k:=2) hx rfl
      have x3:=cell_heap (k:=3) hx rfl
      have lx:=heap_lt0 hx
      clear hx
      go_wp2_with fail
      refine (portWidths_any m SA AA JA MA sn sc an ac jn jc mn mc 3 _ (HM.out.below HB.out)).mono ?_
      rintro _ p3 ⟨A3,c3,rfl,S3⟩
      have HB3:=Lib.hid (below_tr HB.out S3.bel)
      have HBW3:=Lib.hid (below_tr HBW.out S3.bel)
      have HI3:=Lib.hid (S3.ints 0 rfl)
      clear S3 x0 x1 x2 x3 lx
      go_wp2_with fail
      refine (sumInts_any A3 (pwOf m 3).length c3 (pwOf m 3) _ HI3.out (by have:=pwOf_len m 3;omega) (pwOf_in HDS.out)).mono ?_
      obtain ⟨s3,hs3⟩:∃s,sumI (pwOf m 3)=s:=⟨_,rfl⟩
      rw [hs3]
      rintro _ w' ⟨rfl,rfl⟩
      have HS3:=Lib.hid hs3
      clear hs3
      have hs3:=sumI_in (m:=4) (pwOf_in HDS.out (kind:=3))
      rw [HS3.out] at hs3
      have hp3:=pwOf_len m 3
      have hs3b:0≤s3∧s3≤120:=by omega
      clear hs3 hp3
      have hx:=heap_tr HBW3.out HX1.out
      have x3:=cell_heap (k:=3) hx rfl
      have lx:=heap_lt0 hx
      clear hx
      go_wp2_with fail
      clear x3 lx
      go_loopw [9,47] (fun v i wr=>∃k:Nat,k≤mn∧i = .int .i64 (k:Int)∧v = .int .i64 (s3+memW m k)∧Below w1.heap.size w1 wr∧(∀i,i<k→MmFlat m (mmK m i))) (fun _ i _=>mn - (intOf i).toNat)
      case atStart=>exact ⟨0,by omega,rfl,by rw [memW_zero,Int.add_zero],HBW3.out,fun i hi=>by omega⟩
      case round =>
       obtain ⟨k,hk,rfl,rfl,hb,hall⟩:=hrel
       have HALL:=Lib.hid hall
       have HBW:=Lib.hid hb
       have HB:=Lib.hid (below_tr HB1'.out hb)
       clear hb hall
       by_cases hlt:k<mn
       ·have hdk:decide ((k:Int)<(mn:Int))=true:=by simp;omega
        have i0:(0:Int)≤(k:Int):=by omega
        have i1:(k:Int)<(mn:Int):=by omega
        have hkl:k<m.mems.length:=by rw [HL4.out];exact hlt
        obtain ⟨bm,om,hMA,hbm,c0,c1,c2,c3⟩:=HM.out.mm.mmE (k:=k) hkl
        subst hMA
        rw [←HB.out.cell (p:=⟨bm,om+k * 4,none⟩) hbm] at c0
        rw [←HB.out.cell (p:=⟨bm,om+k * 4+1,none⟩) hbm] at c1
        rw [←HB.out.cell (p:=⟨bm,om+k * 4+2,none⟩) hbm] at c2
        rw [←HB.out.cell (p:=⟨bm,om+k * 4+3,none⟩) hbm] at c3
        have lbm:=below_lt HB.out hbm
        have hmf:=HDS.out.one.mem k hkl
        have HNO:=Lib.hid (fun (h:¬MmFlat m (mmK m k)) (h2:FlatFit m)=>h (h2.mem k hkl))
        have HG:=Lib.hid (fun h:MmFlat m (mmK m k)=>all_succ HALL.out h)
        have HMS:=Lib.hid (memW_succ hkl)
        have hmw:=memW_in HDS.out (Nat.le_of_lt hkl)
        have HMF:Hid (MmFlat m (mmK m k)↔((sgI m (mmK m k).addr).width=2∧(sgI m (mmK m k).write).width=1)∧(sgI m (mmK m k).data).width=(sgI m (mmK m k).out).width):=Iff.rfl
        rw [show (m.mems[k]?.getD MmT.zero)=mmK m k from rfl] at c0 c1 c2 c3
        rw [show (mdK [m] 0).mems[k]?.getD MmT.zero=mmK m k from rfl] at hmf
        generalize memW m k=mw at *
        generalize mmK m k=q at *
        obtain ⟨ma,md,mwr,mo⟩:=q
        simp only at c0 c1 c2 c3 HMS HMF
        obtain ⟨hA,hD,hW,hO,-⟩:=hmf
        simp only at hA hD hW hO
        obtain ⟨A,rfl⟩:∃A:Nat,ma=(A:Int):=⟨ma.toNat,by have:=hA.1;omega⟩
        obtain ⟨D,rfl⟩:∃A:Nat,md=(A:Int):=⟨md.toNat,by have:=hD.1;omega⟩
        obtain ⟨W,rfl⟩:∃A:Nat,mwr=(A:Int):=⟨mwr.toNat,by have:=hW.1;omega⟩
        obtain ⟨O,rfl⟩:∃A:Nat,mo=(A:Int):=⟨mo.toNat,by have:=hO.1;omega⟩
        have hA2:=hA.2
        have hD2:=hD.2
        have hW2:=hW.2
        have hO2:=hO.2
        rw [show (mdK [m] 0).sigs.length=m.sigs.length from rfl,HL1.out] at hA2 hD2 hW2 hO2
        have hW4:=(HDS.out.one.sig O (by show O<m.sigs.length;rw [HL1.out];omega)).1.2
        rw [show (sgK (mdK [m] 0).sigs O)=sgI m (O:Int) from rfl] at hW4
        have HSG:=fun (X:Nat) (hX:(X:Int)<(sn:Int))=>HM.out.sg.sgE (k:=X) (by rw [HL1.out];omega)
        obtain ⟨bs,os,hSA,hbs,-,sA,-⟩:=HSG A hA2
        obtain ⟨bs2,os2,hS2,-,-,sD,-⟩:=HSG D hD2
        obtain ⟨bs3,os3,hS3,-,-,sW,-⟩:=HSG W hW2
        obtain ⟨bs4,os4,hS4,-,-,sO,-⟩:=HSG O hO2
        clear HSG
        subst hSA
        injection hS2 with hS2
        injection hS2 with h1 h2
        subst h1 h2
        injection hS3 with hS3
        injection hS3 with h1 h2
        subst h1 h2
        injection hS4 with hS4
        injection hS4 with h1 h2
        subst h1 h2
        rw [show (m.sigs[A]?.getD SgT.zero)=sgI m (A:Int) from rfl] at sA
        rw [show (m.sigs[D]?.getD SgT.zero)=sgI m (D:Int) from rfl] at sD
        rw [show (m.sigs[W]?.getD SgT.zero)=sgI m (W:Int) from rfl] at sW
        rw [show (m.sigs[O]?.getD SgT.zero)=sgI m (O:Int) from rfl] at sO
        generalize (sgI m (A:Int)).width=wA at *
        generalize (sgI m (D:Int)).width=wD at *
        generalize (sgI m (W:Int)).width=wW at *
        generalize (sgI m (O:Int)).width=wO at *
        have n0:(0:Int)≤(A:Int):=by omega
        have n1:(0:Int)≤(D:Int):=by omega
        have n2:(0:Int)≤(W:Int):=by omega
        have n3:(0:Int)≤(O:Int):=by omega
        clear hkl hbm hA hD hW hO
        have HBV:=Lib.hid (below_new HBW.out (.cells #[.int .i64 (A:Int),.int .i64 (D:Int),.int .i64 (W:Int),.int .i64 (O:Int)] 200))
        have HB1:=Lib.hid (below_new HB.out (.cells #[.int .i64 (A:Int),.int .i64 (D:Int),.int .i64 (W:Int),.int .i64 (O:Int)] 200))
        have hy:=heap_new wr (.cells #[.int .i64 (A:Int),.int .i64 (D:Int),.int .i64 (W:Int),.int .i64 (O:Int)] 200)
        have HY:=Lib.hid hy
        have y0:=cell_heap (k:=0) hy rfl
        have y1:=cell_heap (k:=1) hy rfl
        have y2:=cell_heap (k:=2) hy rfl
        have y3:=cell_heap (k:=3) hy rfl
        have ly:=heap_lt0 hy
        clear hy
        go_upto_region 20 with fail
        generalize wr.alloc (.cells #[.int .i64 (A:Int),.int .i64 (D:Int),.int .i64 (W:Int),.int .i64 (O:Int)] 200)=W5 at *
        have hx:=heap_tr HBV.out HX1.out
        have x0:=cell_heap (k:=0) hx rfl
        have lx:=heap_lt0 hx
        clear hx
        have sA:=(HB1.out.cell (p:=⟨bs,os+A * 3+1,none⟩) hbs).trans sA
        have sD:=(HB1.out.cell (p:=⟨bs,os+D * 3+1,none⟩) hbs).trans sD
        have sW:=(HB1.out.cell (p:=⟨bs,os+W * 3+1,none⟩) hbs).trans sW
        have sO:=(HB1.out.cell (p:=⟨bs,os+O * 3+1,none⟩) hbs).trans sO
        have lbs:=below_lt HB1.out hbs
        by_cases hA:wA=2
        ·have dA:(wA != 2)=false:=by simp [hA]
         by_cases hW:wW=1
         ·have dW:(wW != 1)=false:=by simp [hW]
          by_cases hE:wD=wO
          ·have dE:(wD != wO)=false:=by simp [hE]
           have HG2:=Lib.hid (HG.out (HMF.out.2 ⟨⟨hA,hW⟩,hE⟩))
           clear hA hW hE
           have hsub:=sub_ne W5
           have hsc:=sub_cell W5
           refine wp_region_below W5 (by kernel_rfl) (by kernel_rfl) (Below.refl _ _) ?_
           repeat (go_big_quiet_step (fail))
           refine wpQuiet_nil ?_
           rintro _ ⟨⟨w5,hD⟩,rfl⟩
           clear hsub hsc
           have HB2:=Lib.hid (below_tr HBV.out hD)
           have HX5:=Lib.hid (heap_tr hD HY.out)
           have sO:=(hD.cell (p:=⟨bs,os+O * 3+1,none⟩) lbs).trans sO
           have lbs:=below_lt hD lbs
           clear hD y0 y1 y2 y3 ly x0 lx sA sD sW c0 c1 c2 c3 lbm
           have hy:=HX5.out
           have y3:=cell_heap (k:=3) hy rfl
           have ly:=heap_lt0 hy
           clear hy
           have hx:=heap_tr HB2.out HX1.out
           have x0:=cell_heap (k:=0) hx rfl
           have lx:=heap_lt0 hx
           clear hx
           go_wp2_with fail
           go_roundw
           case rel=>exact ⟨k+1,by omega,by go_num,by rw [HMS.out];congr 1;omega,HB2.out,HG2.out⟩
           case measure=>simp [intOf];omega
          ·have dE:(wD != wO)=true:=by simp [hE]
           have HR:=Lib.hid (HNO.out fun h=>hE (HMF.out.1 h).2)
           clear hA hW hE
           have hsub:=sub_ne W5
           have hsc:=sub_cell W5
           refine wp_region_below W5 (by kernel_rfl) (by kernel_rfl) (Below.refl _ _) ?_
           repeat (go_big_quiet_step (fail))
           refine wpQuiet_nil ?_
           rintro _ ⟨⟨w5,hD⟩,rfl⟩
           clear hsub hsc
           have HB2:=Lib.hid (below_tr HB1.out hD)
           clear hD
           go_wp2_with fail
           go_ret
           exact ⟨ret_ff HR.out,HB2.out⟩
         ·have dW:(wW != 1)=true:=by simp [hW]
          have HR:=Lib.hid (HNO.out fun h=>hW (HMF.out.1 h).1.2)
          clear hA hW
          have hsub:=sub_ne W5
          have hsc:=sub_cell W5
          refine wp_region_below W5 (by kernel_rfl) (by kernel_rfl) (Below.refl _ _) ?_
          repeat (go_big_quiet_step (fail))
          refine wpQuiet_nil ?_
          rintro _ ⟨⟨w5,hD⟩,rfl⟩
          clear hsub hsc
          have HB2:=Lib.hid (below_tr HB1.out hD)
          clear hD
          go_wp2_with fail
          go_ret
          exact ⟨ret_ff HR.out,HB2.out⟩
        ·have dA:(wA != 2)=true:=by simp [hA]
         have HR:=Lib.hid (HNO.out fun h=>hA (HMF.out.1 h).1.1)
         clear hA
         have hsub:=sub_ne W5
         have hsc:=sub_cell W5
         refine wp_region_below W5 (by kernel_rfl) (by kernel_rfl) (Below.refl _ _) ?_
         repeat (go_big_quiet_step (fail))
         refine wpQuiet_nil ?_
         rintro _ ⟨⟨w5,hD⟩,rfl⟩
         clear hsub hsc
         have HB2:=Lib.hid (below_tr HB1.out hD)
         clear hD
         go_wp2_with fail
         go_ret
         exact ⟨ret_ff HR.out,HB2.out⟩
       ·have hkn:k=mn:=by omega
        have hdk:decide ((k:Int)<(mn:Int))=false:=by simp;omega
        clear hlt
        subst k
        have HF3:Hid (∀i,i<m.mems.length→MmFlat m (mmK m i)):=fun i hi=>HALL.out i (by rw [HL4.out] at hi;exact hi)
        have HF4:Hid (m.mems.length=mn):=HL4.out
        generalize hmw:memW m mn=mw at *
        have HMW:=Lib.hid hmw
        clear hmw
        have hx:=heap_tr HBW.out HX1.out
        have x0:=cell_heap (k:=0) hx rfl
        have x1:=cell_heap (k:=1) hx rfl
        have x2:=cell_heap (k:=2) hx rfl
        have x3:=cell_heap (k:=3) hx rfl
        have lx:=heap_lt0 hx
        clear hx
        go_wp2_with fail
        refine (portWidths_any m SA AA JA MA sn sc an ac jn jc mn mc 0 _ (HM.out.below HB.out)).mono ?_
        rintro _ p4 ⟨A4,c4,rfl,S4⟩
        have HB4:=Lib.hid (below_tr HB.out S4.bel)
        have HBW4:=Lib.hid (below_tr HBW.out S4.bel)
        have HI4:=Lib.hid (S4.ints 0 rfl)
        clear S4 x0 x1 x2 x3 lx
        go_wp2_with fail
        refine (sumInts_any A4 (pwOf m 0).length c4 (pwOf m 0) _ HI4.out (by have:=pwOf_len m 0;omega) (pwOf_in HDS.out)).mono ?_
        obtain ⟨s4,hs4⟩:∃s,sumI (pwOf m 0)=s:=⟨_,rfl⟩
        rw [hs4]
        rintro _ w' ⟨rfl,rfl⟩
        have HS4:=Lib.hid hs4
        clear hs4
        by_cases hb0:s4≤8
        ·have db0:decide (s4≤8)=true:=decide_eq_true hb0
         have hx:=heap_tr HBW4.out HX1.out
         have x0:=cell_heap (k:=0) hx rfl
         have x1:=cell_heap (k:=1) hx rfl
         have x2:=cell_heap (k:=2) hx rfl
         have x3:=cell_heap (k:=3) hx rfl
         have lx:=heap_lt0 hx
         clear hx
         go_wp2_with fail
         refine (portWidths_any m SA AA JA MA sn sc an ac jn jc mn mc 1 _ (HM.out.below HB4.out)).mono ?_
         rintro _ p5 ⟨A5,c5,rfl,S5⟩
         have HB5:=Lib.hid (below_tr HB4.out S5.bel)
         have HBW5:=Lib.hid (below_tr HBW4.out S5.bel)
         have HI5:=Lib.hid (S5.ints 0 rfl)
         clear S5 x0 x1 x2 x3 lx
         go_wp2_with fail
         refine (sumInts_any A5 (pwOf m 1).length c5 (pwOf m 1) _ HI5.out (by have:=pwOf_len m 1;omega) (pwOf_in HDS.out)).mono ?_
         obtain ⟨s5,hs5⟩:∃s,sumI (pwOf m 1)=s:=⟨_,rfl⟩
         rw [hs5]
         rintro _ w' ⟨rfl,rfl⟩
         have HS5:=Lib.hid hs5
         clear hs5
         by_cases hb1:s5≤8
         ·have db1:decide (s5≤8)=true:=decide_eq_true hb1
          by_cases hb2:s3+mw≤12
          ·have db2:decide (s3+mw≤12)=true:=decide_eq_true hb2
           have HR:Hid (FlatFit m):=⟨HORD.out,HF1.out,HF2.out,HF3.out,by rw [HS4.out];exact hb0,by rw [HS5.out];exact hb1,by rw [HF4.out,HMW.out,HS3.out];exact hb2⟩
           clear hb0 hb1 hb2
           go_wp2_with fail
           go_ret
           exact ⟨ret_tt HR.out,HB5.out⟩
          ·have db2:decide (s3+mw≤12)=false:=decide_eq_false hb2
           have HR:Hid (¬FlatFit m):=fun h=>hb2 (by have h1:=h.bits;rw [HF4.out,HMW.out,HS3.out] at h1;exact h1)
           clear hb0 hb1 hb2
           go_wp2_with fail
           go_ret
           exact ⟨ret_ff HR.out,HB5.out⟩
         ·have db1:decide (s5≤8)=false:=decide_eq_false hb1
          have HR:Hid (¬FlatFit m):=fun h=>hb1 (by have h1:=h.outs;rw [HS5.out] at h1;exact h1)
          clear hb0 hb1
          go_wp2_with fail
          go_ret
          exact ⟨ret_ff HR.out,HB5.out⟩
        ·have db0:decide (s4≤8)=false:=decide_eq_false hb0
         have HR:Hid (¬FlatFit m):=fun h=>hb0 (by have h1:=h.ins;rw [HS4.out] at h1;exact h1)
         clear hb0
         go_wp2_with fail
         go_ret
         exact ⟨ret_ff HR.out,HB4.out⟩
 ·have HR:Hid (¬FlatFit m):=fun h=>by obtain ⟨o,h1⟩:=h.ord;rw [ho] at h1;cases h1
  have HB1:=Lib.hid (below_tr HB0.out b0)
  clear b0 ho x0 x1 x2 x3 lx
  go_wp2_with fail
  go_ret
  exact ⟨ret_ff HR.out,HB1.out⟩
end Go.Proofs.YtlinbdkbbhpdpaaGreat
