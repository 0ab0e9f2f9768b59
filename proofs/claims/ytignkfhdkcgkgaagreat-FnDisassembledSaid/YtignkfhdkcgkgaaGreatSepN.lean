/- More on pieces: a block ahead of the others, a numbered list that is entered into. -/
import Derived.Test.YtignkfhdkcgkgaaGreatOrdP
namespace Go.Proofs.YtignkfhdkcgkgaaGreat
set_option maxRecDepth 100000
open Go.RowKit

theorem Sepa.consBlk {W w:World} {ps:List Pc} (h:Sepa W w ps) (cs:Array Value) (t:TypeId):Sepa W (w.alloc (.cells cs t)) (.blk w.heap.size cs t :: ps) :=
 h.cons (below_new (Below.refl _ _) _) (G:=[w.heap.size]) ⟨rfl,by simp,heap_new _ _,fun w1 w2 e h=>e.trans h⟩ (by simp) (by simp)
theorem Sepa.pushMap {W w:World} {ps:List Pc} (h:Sepa W w ps) (base:Int):Sepa W (w.alloc (.map #[] 0)) (ps++[numPc w.heap.size base []]) :=
 h.push (below_new (Below.refl _ _) _) (G:=[w.heap.size]) ⟨rfl,by simp,NumAt.made w base,fun _ _ e h=>h.keep e⟩ (by simp) (by simp)
theorem wpList_sepNum {ops:Array Oper} {rest:List Oper} {o:Oper} {a:Act} {Q:Exit→Act→World→Prop} {w W:World} (hg:o.guard=none) (mo x v:Operand) (hop:o.op=Op.mapUpdate 116 mo x v)
  (ps:List Pc) (S:Sepa W w ps) (i b:Nat) (base:Int) (l:List Int) (hi:ps[i]?=some (numPc b base l)) (hm:a.eval mo = .map (some b)) (hn:l.length<1000) (key y:Int) (hx:a.eval x = .int .i64 key) (hv:a.eval v = .int .i64 y)
  (hk:InI64 key) (hy:y=base+(l.length:Int)) (hb:InI64 y) (hne:key∉l)
  (h:∀w',Sepa W w' (ps.set i (numPc b base (l++[key])))→w.heap.size≤w'.heap.size→wpList Tryz.prog ops Q rest (a.put o.dst undef) w'):wpList Tryz.prog ops Q (o :: rest) a w:=by
 refine wpList_plain hg fun K' hK'=>?_
 obtain ⟨w',hrun,r1,r2⟩:=S.numPut i hi hn key y hk hy hb hne
 unfold Oper.wp
 simp [execOp,hop,hm,hx,hv,hrun,Result.andThen]
 exact hK' _ _ (h w' r1 r2)
theorem emu_sel {w:World} {g:Nat} {d:Dev} {ts:List Tile} {TA:Option Addr} {m tc:Nat} {EA DA:Option Addr} {N:Nat} (hem:EmuAt w g d ts TA m tc EA DA N) (hc:CfgOk d ts) {t p:Nat} (ht:tileIn d (t:Int)=true) (hp:p≤1) {b o bl ol q4:Nat} (hTA:TA=some ⟨b,o,none⟩) (hcl:w.cell? ⟨b,o+t * 4+1,none⟩=some (.slice (some ⟨bl,ol,none⟩) 2 q4)) :
  ∃A n c,bl<w.heap.size∧w.cell? ⟨bl,ol+p * 4,none⟩=some (.slice A n c)∧RdC w w.heap.size (celI (leAt ts (t:Int) (p:Int)).sel) (.slice A n c)∧w.cell? ⟨bl,ol+p * 4+1,none⟩=some (.int .i64 (leAt ts (t:Int) (p:Int)).mask)∧w.cell? ⟨bl,ol+p * 4+2,none⟩=some (.int .i64 (leAt ts (t:Int) (p:Int)).flop)∧w.cell? ⟨bl,ol+p * 4+3,none⟩=some (.int .i64 (leAt ts (t:Int) (p:Int)).init):=by
 obtain ⟨_,hl2,htl,_⟩:=le_fit (e:=(p:Int)) hc ht (by omega)
 obtain ⟨b',o',S,m3,q,L,l,q5,hTA',hb,_,cl,cp,cr,-,rl⟩:=hem.tiles.tile htl
 rw [hTA] at hTA'
 injection hTA' with hTA'
 injection hTA' with e1 e2
 subst e1 e2
 change RdC w w.heap.size (celE (tileAt ts (t:Int)).les) (.slice L l q5) at rl
 rw [Int.toNat_natCast] at cl
 rw [cl] at hcl
 injection hcl with hcl
 injection hcl with h1 h2 h3
 subst h1 h2 h3
 obtain ⟨bl',ol',S4,m4,p4,hL,hbl,d0,d1,d2,d3,r4⟩:=rl.le (k:=p) (by omega)
 injection hL with hL
 injection hL with e1 e2
 subst e1 e2
 exact ⟨S4,m4,p4,hbl,d0,r4,d1,d2,d3⟩
/-- A number is appended to a slice that lies in a row of several cells: what the run leaves, before and behind the store of the new slice. -/
theorem step_slotPush {ops:Array Oper} {o:Oper} {a:Act} {Q:Exit→Act→World→Prop} {K:Act→World→Prop} {E:Prop} {w W:World} (hgd:o.guard=none) (s x:Operand)
  (ho:o.op = .call { callee := .builtin .append,args:=#[s,x],argTypes:=#[27,27] })
  (ps:List Pc) (S:Sepa W w ps) (i m:Nat) (g e sz rn rc:Nat) (cs:List Cel) (xs:List Int) (y:Int) (A:Option Addr) (n c B:Nat) (fr:Nat × Nat) (hi:ps[i]?=some (.cel (.row e sz cs) (.slice (some ⟨g,0,none⟩) rn rc))) (hm:cs[m]?=some (celI xs)) (hv:w.cell? ⟨g,m,none⟩=some (.slice A n c))
  (hs:a.eval s = .slice A n c) (hx:a.eval x = .slice (some ⟨B,0,none⟩) 1 1) (hB:w.heap[B]?=some (.cells #[.int .i64 y] 3 fr)) (hn:n≤1099511627776)
  (h:∀g2 cap w',Sepa W w' (ps.set i (.cels [] []))→(∃v,w'.cell? ⟨g,m,none⟩=some v)→w'.frozen? ⟨g,m,none⟩=false→g<w'.heap.size→w.heap.size≤w'.heap.size →
   Sepa W (w'.setCell ⟨g,m,none⟩ (.slice (some ⟨g2,0,none⟩) (n+1) cap)) (ps.set i (.cel (.row e sz (cs.set m (celI (xs++[y])))) (.slice (some ⟨g,0,none⟩) rn rc))) →
   K (a.put o.dst (.slice (some ⟨g2,0,none⟩) (n+1) cap)) w') :
  if Region.wanted o (yielded ops a.tmps)=true then Oper.wp Tryz.prog o a w K Q else E:=by
 obtain ⟨i0,hi0,hz0,hz1,hz2⟩:=info_parts int_info
 obtain ⟨Fi,k1,k2,k3,k4⟩:=S.part i hi
 obtain ⟨g',v,Fj,hA,hg,hcell,hfz,hc,hnj,hgj,hsub,hu⟩:=OwnC.slot k1 k2 hm
 injection hA with hA
 injection hA with hA
 subst hA
 rw [hv] at hcell
 injection hcell with hcell
 subst hcell
 obtain ⟨hown,rfl⟩:=ownC_ints.1 hc
 refine step_append_lies w hgd s x 27 ho 0 3 i0 (.int .i64 0) 1 8 Tryz.underlying27 hi0 hz0 hz1 hz2 rfl (by omega) (.slice A n c) n (xs.map (Value.int .i64)) hs hown ⟨B,0,none⟩ 1 1 [.int .i64 y] hx rfl (news_at hB) (fun u hu=>by simp at hu;subst hu;rfl) (by omega) (by unfold maxLen;omega) (by omega) (Nat.zero_le _) _ rfl fun g2 cap w' g1 g2' g3 _=>?_
 rw [ownBlock_slice] at g2' g3
 obtain ⟨G,u1,u2,u3,u4⟩:=push_fact1 (cs:=xs.map .int) (nc:=[.int y]) (F2:=[]) (F':=[]) (vs:=xs.map (Value.int .i64)) (nv:=[.int .i64 y]) hnj (ownL_ints (xs:=[y]).2 ⟨rfl,rfl⟩) (by simp) (by simp) (List.append_nil _).symm (ownL_ints.2 ⟨rfl,rfl⟩) g1 g2' g3
 have hG:∀k∈G,k∈blk A∨k∉Fi:=fun k hk=>by
  rcases u3 k hk with h|h|h
  ·exact .inl h
  ·simp at h
  ·exact .inr fun hm=>by have:=(k3 k hm).2;omega
 obtain ⟨F',v1,v2,v3⟩:=hu w' (celI (xs++[y])) (.slice (some ⟨g2,0,none⟩) (n+1) cap) G (by rw [celI,List.map_append];exact u1) u2 hG u4
 have hgk:w'.heap[g]?=w.heap[g]?:=u4.block g (k3 g hg).2 hgj
 have hFo:Only Fi w w':=u4.more hsub
 refine h g2 cap w' (k4 w' (.cels [] []) [] (show OwnL w' [] [] [] from ownL_nil.2 ⟨rfl,rfl⟩) (by simp) (by simp) hFo) ⟨_,(World.cell?_of_block (a:=⟨g,m,none⟩) hgk).trans hv⟩ ((World.frozen?_of_block (a:=⟨g,m,none⟩) hgk).trans hfz) (Nat.lt_of_lt_of_le (k3 g hg).2 u4.size) u4.size
  (k4 _ _ F' v1 v2 (fun k hk=>?_) (hFo.trans (only_set (p:=⟨g,m,none⟩) hg _)))
 rcases v3 k hk with h|h
 ·exact .inl h
 ·rcases u3 k h with h|h|h
  ·exact .inl (hsub k h)
  ·simp at h
  ·exact .inr h
theorem Sepa.rowSlice {W w:World} {ps:List Pc} (S:Sepa W w ps) (i m:Nat) {g e sz rn rc:Nat} {cs:List Cel} {xs:List Int} (hi:ps[i]?=some (.cel (.row e sz cs) (.slice (some ⟨g,0,none⟩) rn rc))) (hm:cs[m]?=some (celI xs)) :
  ∃A n c,w.cell? ⟨g,m,none⟩=some (.slice A n c)∧xs.length=n∧w.frozen? ⟨g,m,none⟩=false∧g<w.heap.size:=by
 obtain ⟨Fi,k1,k2,k3,_⟩:=S.part i hi
 obtain ⟨g',v,Fj,hA,hg,hcell,hfz,hc,_,_,_,_⟩:=OwnC.slot k1 k2 hm
 injection hA with hA
 injection hA with hA
 subst hA
 obtain ⟨A,n,c,rfl⟩:=ownC_slice (e:=3) (s:=1) hc
 exact ⟨A,n,c,hcell,(ownC_ints.1 hc).1.len,hfz,(k3 g hg).2⟩
/-- A number in a row of numbers is stored anew. -/
theorem Sepa.setI {W w:World} {ps:List Pc} (S:Sepa W w ps) (j:Nat) {n c i:Nat} {A:Option Addr} {xs:List Int} (hj:ps[j]?=some (.cel (celI xs) (.slice A n c))) (hi:i<n) :
  ∃g,A=some ⟨g,0,none⟩∧W.heap.size≤g∧g<w.heap.size∧w.cell? ⟨g,i,none⟩=some (.int .i64 (xs[i]?.getD 0))∧w.frozen? ⟨g,i,none⟩=false ∧
   ∀y:Int,Sepa W (w.setCell ⟨g,i,none⟩ (.int .i64 y)) (ps.set j (.cel (celI (xs.set i y)) (.slice A n c))):=by
 have hl:=(S.ints j hj).1
 have hx:xs[i]?=some (xs[i]?.getD 0):=by rw [List.getElem?_eq_getElem (by omega)];rfl
 obtain ⟨g,h1,h2,h3,h4,h5,h6⟩:=S.num j (i:=i) (x:=xs[i]?.getD 0) hj (by rw [List.getElem?_map,hx];rfl)
 exact ⟨g,h1,h2,h3,h4,h5,fun y=>by have:=h6 y;rwa [←List.map_set] at this⟩
theorem Sepa.consLit {W w:World} {ps:List Pc} (h:Sepa W w ps) (y:Int):Sepa W (w.alloc (.cells #[.int .i64 y] 3)) (.cel (celI [y]) (.slice (some ⟨w.heap.size,0,none⟩) 1 1) :: ps) :=
 h.consOwn (below_new (Below.refl _ _) _) (Own.made (cur:=#[.int .i64 y]) (heap_new w _) (Nat.le_refl _) (by unfold maxLen;omega) rfl rfl)
theorem NumAt.look {w:World} {b:Nat} {base:Int} {l:List Int} (h:NumAt w b base l) {key:Int} (hk:InI64 key):(Instr.lookup 116 (.map (some b)) (.int .i64 key) false).run Tryz.prog w = .ok (.int .i64 (numF base l key)) w:=by
 obtain ⟨D,h1,h2⟩:=h
 obtain ⟨c,hr,hc,_⟩:=h1.lookup_int keyedI Tryz.underlying116 Tryz.underlying3 (zeroI w) (key64 hk)
 rw [(h2 key).1] at hc
 injection hc with hc
 injection hc with _ hc
 rw [hr,hc]
theorem seq_info:(Tryz.prog.info? 105).map (fun i=>(i.zero,i.size,i.bytes))=some (some (.agg #[.int .i64 0,.int .i64 0,.slice none 0 0]),3,40):=by kernel_rfl
theorem Sepa.consSeq {W w:World} {ps:List Pc} (h:Sepa W w ps) (k y:Int):Sepa W w (.cels [.int k,.int y,celI []] [.int .i64 k,.int .i64 y,.slice none 0 0] :: ps) :=
 h.cons (Below.refl _ _) (G:=[]) (show OwnL w _ _ [] from ownL_cons.2 ⟨_,_,[],[],rfl,rfl,ownC_int.2 ⟨rfl,rfl⟩,ownL_cons.2 ⟨_,_,[],[],rfl,rfl,ownC_int.2 ⟨rfl,rfl⟩,ownL_cons.2 ⟨_,_,[],[],rfl,rfl,ownC_ints.2 ⟨Own.nil,rfl⟩,ownL_nil.2 ⟨rfl,rfl⟩⟩⟩⟩) (by simp) (by simp)
def owP (ts:List Tile) (j:Nat):Nat→List Int
 | 0=>[]
 | e+1=>owP ts j e++if (leX ts (2 * (j:Int)+(e:Int))).flop=1 then [2 * (j:Int)+(e:Int)] else []
theorem owP_len (ts:List Tile) (j e:Nat):(owP ts j e).length≤e:=by
 induction e with
 | zero=>exact Nat.le_refl _
 | succ e ih=>rw [owP,List.length_append];split <;> simp <;> omega
theorem owP_in {ts:List Tile} {j e:Nat} {x:Int} (h:x∈owP ts j e):x<2 * (j:Int)+(e:Int):=by
 induction e with
 | zero=>simp [owP] at h
 | succ e ih =>
  rw [owP,List.mem_append] at h
  rcases h with h|h
  ·have:=ih h;omega
  ·split at h
   ·simp at h;omega
   ·simp at h
theorem owP_two {d:Dev} {ts:List Tile} {j:Nat} (h:kindOf d (j:Int)=1):owAt d ts j=owP ts j 2:=by
 rw [owAt,if_pos h,owP,owP,owP]
 simp
theorem sqs_snoc' (xs:List Int) (f:Int→Sq) (x:Int):(xs.map f++[x].map f).flatMap Sq.cells=(xs.map f).flatMap Sq.cells++(f x).cells:=by simp
/-- The loops of a function's code, those within loops left out. -/
def loopsOf:Code→List Code
 | .loop c=>[.loop c]
 | .seq a b=>loopsOf a++loopsOf b
 | .block _ c=>loopsOf c
 | .scope c=>loopsOf c
 | .cond _ a b=>loopsOf a++loopsOf b
 | _=>[]
def loopAt (f:Func) (k:Nat):Code:=((f.body.map loopsOf).getD [])[k]?.getD .skip
end Go.Proofs.YtignkfhdkcgkgaaGreat
