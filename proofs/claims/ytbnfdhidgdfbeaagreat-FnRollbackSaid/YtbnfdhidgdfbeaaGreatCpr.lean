/- Copies of boards: the program's and the reference's. append to an empty list that has just been made, in a drawn region. The reference's copy of a board. -/
import Derived.Laws.CopyOwn
import Derived.Laws.Tables
import Derived.Lib.SmallJoins
import Derived.Test.YtbnfdhidgdfbeaaGreatCopies
import Derived.Test.YtbnfdhidgdfbeaaGreatNbs
namespace Go.Proofs.YtbnfdhidgdfbeaaGreat
set_option maxRecDepth 100000
open Go.RowKit

theorem far1 {w:World} {g:Nat} {p:Addr} {v:Value} (hne:g≠p.block) (o:Nat):(w.setCell p v).cell? ⟨g,o,none⟩=w.cell? ⟨g,o,none⟩:=World.cell?_of_block (a:=⟨g,o,none⟩) (Below.heap_setCell w p v g hne)
theorem far12 {w:World} {g gw:Nat} {u0 u1 u2 u3 u4 u5 u6 u7 u8 u9 u10 u11:Value} (hne:g≠gw) (o:Nat):((((((((((((w.setCell ⟨gw,0,none⟩ u0).setCell ⟨gw,1,none⟩ u1).setCell ⟨gw,2,none⟩ u2).setCell ⟨gw,3,none⟩ u3).setCell ⟨gw,4,none⟩ u4).setCell ⟨gw,5,none⟩ u5).setCell ⟨gw,6,none⟩ u6).setCell ⟨gw,7,none⟩ u7).setCell ⟨gw,8,none⟩ u8).setCell ⟨gw,9,none⟩ u9).setCell ⟨gw,10,none⟩ u10).setCell ⟨gw,11,none⟩ u11).cell? ⟨g,o,none⟩=w.cell? ⟨g,o,none⟩:=by
 iterate 12 rw [far1 (by exact hne)]
set_option maxHeartbeats 4000000 in
theorem copyBoard_any (b:Bd) (s:Sl3) (w:World) (hA:BoardRd w b s) (hz:BdOk b) :
  Calls Tryz.prog 51 #[.agg (bdArr b s)] w fun e w'=>∃t,e = .returned (.agg (bdArr b t))∧BoardAt w.heap.size w'.heap.size w' b t∧Below w.heap.size w w':=by
 obtain ⟨d,fs,st,ph,r,sv⟩:=b
 obtain ⟨A1,n1,c1,A2,n2,c2,A3,n3,c3⟩:=s
 obtain ⟨hz1,hz2,hz3⟩:=hz
 dsimp only at hz1 hz2 hz3
 have HI:=Lib.hid hA
 have hln:n2≤1099511627776:=by have e1:st.length=n2:=hA.state.1;omega
 have HB0:=Lib.hid (below_new (below_new (Below.refl w.heap.size w) (.cells (bdArr ⟨d,fs,st,ph,r,sv⟩ ⟨A1,n1,c1,A2,n2,c2,A3,n3,c3⟩) 31)) (.cells #[.int .i64 0,.int .i64 0,.int .i64 0,.int .i64 0,.slice none 0 0,.slice none 0 0,.int .i64 0,.int .i64 0,.int .i64 0,.int .i64 0,.int .i64 0,.slice none 0 0] 31))
 have HX:Hid (((w.alloc (.cells (bdArr ⟨d,fs,st,ph,r,sv⟩ ⟨A1,n1,c1,A2,n2,c2,A3,n3,c3⟩) 31)).alloc (.cells #[.int .i64 0,.int .i64 0,.int .i64 0,.int .i64 0,.slice none 0 0,.slice none 0 0,.int .i64 0,.int .i64 0,.int .i64 0,.int .i64 0,.int .i64 0,.slice none 0 0] 31)).heap[w.heap.size]?=some (.cells (bdArr ⟨d,fs,st,ph,r,sv⟩ ⟨A1,n1,c1,A2,n2,c2,A3,n3,c3⟩) 31 (0,0))):=heap_al _ (heap_new _ _)
 have HZ:Hid (((w.alloc (.cells (bdArr ⟨d,fs,st,ph,r,sv⟩ ⟨A1,n1,c1,A2,n2,c2,A3,n3,c3⟩) 31)).alloc (.cells #[.int .i64 0,.int .i64 0,.int .i64 0,.int .i64 0,.slice none 0 0,.slice none 0 0,.int .i64 0,.int .i64 0,.int .i64 0,.int .i64 0,.int .i64 0,.slice none 0 0] 31)).heap[w.heap.size+1]?=some (.cells (bdArr zBd ⟨none,0,0,none,0,0,none,0,0⟩) 31 (0,0))):=heap_newAt (by simp)
 have hsz:((w.alloc (.cells (bdArr ⟨d,fs,st,ph,r,sv⟩ ⟨A1,n1,c1,A2,n2,c2,A3,n3,c3⟩) 31)).alloc (.cells #[.int .i64 0,.int .i64 0,.int .i64 0,.int .i64 0,.slice none 0 0,.slice none 0 0,.int .i64 0,.int .i64 0,.int .i64 0,.int .i64 0,.int .i64 0,.slice none 0 0] 31)).heap.size=w.heap.size+2:=by simp
 have hne:w.heap.size≠w.heap.size+1:=by omega
 clear hA
 go_enter Tryz.func51,Tryz.ntmps51
 go_wp2_with fail
 generalize hW:((w.alloc (.cells (bdArr ⟨d,fs,st,ph,r,sv⟩ ⟨A1,n1,c1,A2,n2,c2,A3,n3,c3⟩) 31)).alloc (.cells #[.int .i64 0,.int .i64 0,.int .i64 0,.int .i64 0,.slice none 0 0,.slice none 0 0,.int .i64 0,.int .i64 0,.int .i64 0,.int .i64 0,.int .i64 0,.slice none 0 0] 31))=W at *
 clear hW
 have hlt:w.heap.size<W.heap.size:=by omega
 have hlt1:w.heap.size+1<W.heap.size:=by omega
 obtain ⟨x0,x1,x2,x3,x4,x5,x6,x7,x8,x9,x10,x11⟩:=cells12 HX.out
 obtain ⟨z0,z1,z2,z3,z4,z5,z6,z7,z8,z9,z10,z11⟩:=cells12 HZ.out
 have y0:=fun k=>frozen_heap HZ.out k
 have hD:=Below.refl W.heap.size W
 go_region_held3 (fun w'=>∀o,w'.cell? ⟨w.heap.size,o,none⟩=W.cell? ⟨w.heap.size,o,none⟩)
  (first|with_reducible exact fun o=>(far12 hne o).trans (hD.cell (p:=⟨w.heap.size,o,none⟩) hlt)|with_reducible exact fun o=>(far12 hne o).trans (hD.drew.cell (p:=⟨w.heap.size,o,none⟩) hlt)|with_reducible exact fun o=>hD.cell (p:=⟨w.heap.size,o,none⟩) hlt|with_reducible exact fun o=>hD.drew.cell (p:=⟨w.heap.size,o,none⟩) hlt)
  (first
   | (go_at_call 120;(with_reducible refine (copyLists_any A1 n1 c1 fs _ (HI.out.frames.below (below_tr HB0.out (by first|with_reducible exact hD|with_reducible exact hD.drew))) hz1).mono ?_);rintro e w1 ⟨B1,e1,rfl,o1,b1⟩;have O1:=Lib.hid o1;have hb1:=Lib.hid b1;have hD2:=below_tr (a:=W) (by first|with_reducible exact hD|with_reducible exact hD.drew) b1;clear b1 o1;replace hD:=hD2;clear z0 z1 z2 z3 z4 z5 z6 z7 z8 z9 z10 z11 y0;have HZc:=heap_tr hD HZ.out;obtain ⟨z0,z1,z2,z3,z4,z5,z6,z7,z8,z9,z10,z11⟩:=cells12 HZc;have y0:=fun k=>frozen_heap HZc k;clear HZc)
   | (go_at_call 121;(with_reducible refine (copyInts_any A2 n2 c2 st _ (HI.out.state.below (below_tr HB0.out (by first|with_reducible exact hD|with_reducible exact hD.drew))) hln).mono ?_);rintro e w2 ⟨B2,e2,rfl,o2,b2⟩;have O2:=Lib.hid o2;have hb2:=Lib.hid b2;have hD2:=below_tr (a:=W) (by first|with_reducible exact hD|with_reducible exact hD.drew) b2;clear b2 o2;replace hD:=hD2;clear z0 z1 z2 z3 z4 z5 z6 z7 z8 z9 z10 z11 y0;have HZc:=heap_tr hD HZ.out;obtain ⟨z0,z1,z2,z3,z4,z5,z6,z7,z8,z9,z10,z11⟩:=cells12 HZc;have y0:=fun k=>frozen_heap HZc k;clear HZc)
   | (go_at_call 120;(with_reducible refine (copyLists_any A3 n3 c3 sv _ (HI.out.saved.below (below_tr HB0.out (by first|with_reducible exact hD|with_reducible exact hD.drew))) hz3).mono ?_);rintro e w3 ⟨B3,e3,rfl,o3,b3⟩;have O3:=Lib.hid o3;have hb3:=Lib.hid b3;have hD2:=below_tr (a:=W) (by first|with_reducible exact hD|with_reducible exact hD.drew) b3;clear b3 o3;replace hD:=hD2;clear z0 z1 z2 z3 z4 z5 z6 z7 z8 z9 z10 z11 y0;have HZc:=heap_tr hD HZ.out;obtain ⟨z0,z1,z2,z3,z4,z5,z6,z7,z8,z9,z10,z11⟩:=cells12 HZc;have y0:=fun k=>frozen_heap HZc k;clear HZc))
 ·clear z0 z1 z2 z3 z4 z5 z6 z7 z8 z9 z10 z11 y0 x0 x1 x2 x3 x4 x5 x6 x7 x8 x9 x10 x11
  go_wp2_with fail
  have hs9:=hD.size
  have hs1:=hb1.out.size
  have hs2:=hb2.out.size
  have hs3:=hb3.out.size
  have hs4:=HB0.out.size
  have e0:W.drew.heap.size=W.heap.size:=rfl
  (try rw [e0] at hs1);(try rw [e0] at hs2);(try rw [e0] at hs3)
  have L2:=O2.out.lies
  generalize hWF:World.setCell _ _ _=WF
  have hb:WF.heap[w.heap.size+1]?=some (.cells (bdArr ⟨d,fs,st,ph,r,sv⟩ ⟨B1,n1,e1,B2,n2,e2,B3,n3,e3⟩) 31 (0,0)):=by
   rw [←hWF]
   exact set12 (heap_tr hD HZ.out)
  have hC:Chg (w.heap.size+1) (w.heap.size+2) w3 WF:=by
   rw [←hWF]
   repeat (first|with_reducible exact Chg.refl _ _ _|with_reducible refine Chg.set ?_ (by omega) (by omega) _)
  have hB:Below w.heap.size w WF:=by
   have h0:=below_tr HB0.out hD
   rw [←hWF]
   repeat (first|with_reducible exact h0|with_reducible refine Below.setCell ?_ (by simp only;omega) _)
  have hsz5:=hC.size
  have K1:=((O1.out.below hb2.out).below hb3.out).chg hC (.inr (by first|omega|(simp only [World.size_drew];omega)))
  have K2:=(O2.out.below hb3.out).chg hC L2 (.inr (by first|omega|(simp only [World.size_drew];omega)))
  have K3:=O3.out.chg hC (.inr (by first|omega|(simp only [World.size_drew];omega)))
  (try rw [e0] at K1);(try rw [e0] at K2);(try rw [e0] at K3);(try rw [e0] at L2)
  clear hWF
  refine bodyPost_ret (v := .agg (bdArr ⟨d,fs,st,ph,r,sv⟩ ⟨B1,n1,e1,B2,n2,e2,B3,n3,e3⟩)) (results_cell1 Tryz.results51 rfl hb Tryz.underlying31 (by kernel_rfl)) rfl ⟨⟨B1,n1,e1,B2,n2,e2,B3,n3,e3⟩,rfl,?_,hB⟩
  exact boardAt_mk K1 K2 L2 K3 ⟨by omega,by omega,by omega,by omega,by omega,by omega,by omega⟩
end Go.Proofs.YtbnfdhidgdfbeaaGreat

namespace Go.Proofs.YtbnfdhidgdfbeaaGreat
set_option maxRecDepth 100000
open Go.RowKit

theorem grown_chg {w w':World} {g:Nat} (h:w.grownBy w' (some g)):Chg g (g+1) w w' :=
 ⟨h.os,h.tape,h.output,h.size,fun k hk hn=>h.block k hk (by simp only [ne_eq,Option.some.injEq];omega)⟩
theorem own_at {base g:Nat} {w:World} {n c:Nat} {xs:List Int} {A:Option Addr} (h:Own base w A n c xs) (hA:A.map (·.block)=some g):Own g w A n c xs∧Lies A g (g+1)∧g<w.heap.size:=by
 have hl:=h.lt
 obtain ⟨h1,h2⟩:=h
 cases A with
 | none=>cases hA
 | some a =>
  simp only [Option.map_some,Option.some.injEq] at hA
  subst hA
  refine ⟨⟨h1,?_⟩,?_,(hl a rfl).2⟩
  ·rcases h2 with ⟨hv,_⟩|⟨g,cap,cur,hv,hg,r⟩
   ·cases hv
   ·refine .inr ⟨g,cap,cur,hv,?_,r⟩
    injection hv with hv _ _
    injection hv with hv
    rw [hv]
    exact Nat.le_refl _
  ·rintro b ⟨⟩
   exact ⟨Nat.le_refl _,Nat.lt_succ_self _⟩
theorem step_append_new {ops:Array Oper} {o:Oper} {a:Act} {K:Act→World→Prop} {Q:Exit→Act→World→Prop} {E:Prop} {w W:World} (hgd:o.guard=none) (s x:Operand)
  (ho:o.op = .call { callee := .builtin .append,args:=#[s,x],argTypes:=#[27,27] })
  (g:Nat) (hs:a.eval s = .slice (some ⟨g,0,none⟩) 0 0) (hown:Own g w (some ⟨g,0,none⟩) 0 0 []) (B:Option Addr) (m d:Nat) (ys:List Int) (hx:a.eval x = .slice B m d) (hr:Ints w B m ys)
  (hn:m≤1099511627776) (lo:Nat) (hlo:lo≤g) (hB:Below lo W w)
  (h:∀A' c' w' b,Own b w' A' m c' ys→Lies A' b (b+1)→(b=g∨b=w.heap.size)→b<w'.heap.size→Below lo W w'→Chg g (g+1) w w'→K (a.put o.dst (.slice A' m c')) w') :
  if Region.wanted o (yielded ops a.tmps)=true then Oper.wp Tryz.prog o a w K Q else E:=by
 have hw:Region.wanted o (yielded ops a.tmps)=true:=by simp [Region.wanted,hgd]
 rw [if_pos hw]
 obtain ⟨i0,hi,hz0,hz1,hz2⟩:=info_parts int_info
 have hgw:g<w.heap.size:=(hown.lt ⟨g,0,none⟩ rfl).2
 cases B with
 | none =>
  have hm:m=0:=by
   rcases Nat.eq_zero_or_pos m with h0|h0
   ·exact h0
   ·obtain ⟨b,o',e,_⟩:=hr.2 h0
    cases e
  subst hm
  have hy:ys=[]:=List.eq_nil_of_length_eq_zero hr.1
  subst hy
  have hrun:=run_append_of_nil (P:=Tryz.prog) w g 27 o.type 3 i0 1 Tryz.underlying27 hi _ _ _ hown d
  unfold Oper.wp execOp
  simp only [ho,resolve,invoke,builtin,Sem.run_bind,Sem.run_pure,Result.andThen_ok,List.map_toArray,List.map_cons,List.map_nil,hs,hx,hrun]
  exact h _ 0 w g hown (by rintro b ⟨⟩;exact ⟨Nat.le_refl _,Nat.lt_succ_self _⟩) (.inl rfl) hgw hB (Chg.refl _ _ _)
 | some ad =>
  obtain ⟨v',w',hrun,h2,h3,h4,h5⟩:=run_append_own_at (P:=Tryz.prog) w g 27 o.type 3 i0 (.int .i64 0) 1 8 Tryz.underlying27 hi hz0 hz1 hz2 rfl (by omega) (.slice (some ⟨g,0,none⟩) 0 0) 0 _ hown ad m d (ys.map (Value.int .i64)) (by simp [hr.1])
   (fun j u hu=>by
    have hj:j<m:=by
     have:=(List.getElem?_eq_some_iff.1 hu).1
     simpa [hr.1] using this
    obtain ⟨b,o',e,_,hc⟩:=hr.2 (by omega)
    injection e with e
    subst e
    rw [Addr.add_lit,hc j hj]
    have:j<ys.length:=by rw [hr.1];exact hj
    simp [this] at hu
    simp [this,←hu]) (fun u hu=>by simp at hu;obtain ⟨y,_,rfl⟩:=hu;rfl) (by unfold maxLen;omega) (by omega) (by omega)
  unfold Oper.wp execOp
  simp only [ho,resolve,invoke,builtin,Sem.run_bind,Sem.run_pure,Result.andThen_ok,List.map_toArray,List.map_cons,List.map_nil,hs,hx,hrun]
  have hB':Below lo W w':=own_grown_lo (A:=some ⟨g,0,none⟩) (base:=g) hB h3 (by rintro a ⟨⟩;exact Nat.le_refl _) hlo (by omega)
  have hC:Chg g (g+1) w w':=grown_chg h3
  simp only [Nat.zero_add,List.map_nil,List.nil_append] at h2
  rcases h2.2 with ⟨rfl,h0⟩|⟨g2,cap,cur,rfl,_⟩
  ·rcases h5 with h5|h5 <;> cases h5
  ·have hh:g2=g∨g2=w.heap.size:=by
    rcases h5 with h5|h5
    ·left;simpa [Value.ownBlock] using h5
    ·right;simpa [Value.ownBlock] using h5
   obtain ⟨k1,k2,k3⟩:=own_at (A:=some ⟨g2,0,none⟩) h2 rfl
   exact h _ cap w' g2 k1 k2 hh k3 hB' hC
end Go.Proofs.YtbnfdhidgdfbeaaGreat

namespace Go.Proofs.YtbnfdhidgdfbeaaGreat
set_option maxRecDepth 100000
open Go.RowKit
set_option maxHeartbeats 4000000 in
theorem sl44Copy_any (b:Bd) (s:Sl3) (w:World) (hA:BoardRd w b s) (hz:BdOk b) :
  Calls Tryz.prog 55 #[.agg (bdArr b s)] w fun e w'=>∃t,e = .returned (.agg (bdArr b t))∧BoardAt w.heap.size w'.heap.size w' b t∧Below w.heap.size w w':=by
 obtain ⟨d,fs,st,ph,r,sv⟩:=b
 obtain ⟨A1,n1,c1,A2,n2,c2,A3,n3,c3⟩:=s
 obtain ⟨hz1,hz2,hz3⟩:=hz
 dsimp only at hz1 hz2 hz3
 have HI:=Lib.hid hA
 have hln:n2≤1099511627776:=by have e1:st.length=n2:=hA.state.1;omega
 have HB0:=Lib.hid (below_new (below_new (Below.refl w.heap.size w) (.cells (bdArr ⟨d,fs,st,ph,r,sv⟩ ⟨A1,n1,c1,A2,n2,c2,A3,n3,c3⟩) 31)) (.cells #[.int .i64 0,.int .i64 0,.int .i64 0,.int .i64 0,.slice none 0 0,.slice none 0 0,.int .i64 0,.int .i64 0,.int .i64 0,.int .i64 0,.int .i64 0,.slice none 0 0] 31))
 have HX:Hid (((w.alloc (.cells (bdArr ⟨d,fs,st,ph,r,sv⟩ ⟨A1,n1,c1,A2,n2,c2,A3,n3,c3⟩) 31)).alloc (.cells #[.int .i64 0,.int .i64 0,.int .i64 0,.int .i64 0,.slice none 0 0,.slice none 0 0,.int .i64 0,.int .i64 0,.int .i64 0,.int .i64 0,.int .i64 0,.slice none 0 0] 31)).heap[w.heap.size]?=some (.cells (bdArr ⟨d,fs,st,ph,r,sv⟩ ⟨A1,n1,c1,A2,n2,c2,A3,n3,c3⟩) 31 (0,0))):=heap_al _ (heap_new _ _)
 have HZ:Hid (((w.alloc (.cells (bdArr ⟨d,fs,st,ph,r,sv⟩ ⟨A1,n1,c1,A2,n2,c2,A3,n3,c3⟩) 31)).alloc (.cells #[.int .i64 0,.int .i64 0,.int .i64 0,.int .i64 0,.slice none 0 0,.slice none 0 0,.int .i64 0,.int .i64 0,.int .i64 0,.int .i64 0,.int .i64 0,.slice none 0 0] 31)).heap[w.heap.size+1]?=some (.cells (bdArr zBd ⟨none,0,0,none,0,0,none,0,0⟩) 31 (0,0))):=heap_newAt (by simp)
 have hsz:w.heap.size+2≤((w.alloc (.cells (bdArr ⟨d,fs,st,ph,r,sv⟩ ⟨A1,n1,c1,A2,n2,c2,A3,n3,c3⟩) 31)).alloc (.cells #[.int .i64 0,.int .i64 0,.int .i64 0,.int .i64 0,.slice none 0 0,.slice none 0 0,.int .i64 0,.int .i64 0,.int .i64 0,.int .i64 0,.int .i64 0,.slice none 0 0] 31)).heap.size:=by simp
 have hne:w.heap.size≠w.heap.size+1:=by omega
 clear hA
 go_enter Tryz.func55,Tryz.ntmps55
 go_wp2_with fail
 generalize hW:((w.alloc (.cells (bdArr ⟨d,fs,st,ph,r,sv⟩ ⟨A1,n1,c1,A2,n2,c2,A3,n3,c3⟩) 31)).alloc (.cells #[.int .i64 0,.int .i64 0,.int .i64 0,.int .i64 0,.slice none 0 0,.slice none 0 0,.int .i64 0,.int .i64 0,.int .i64 0,.int .i64 0,.int .i64 0,.slice none 0 0] 31))=W at *
 clear hW
 have hlt:w.heap.size<W.heap.size:=by omega
 have hlt1:w.heap.size+1<W.heap.size:=by omega
 obtain ⟨x0,x1,x2,x3,x4,x5,x6,x7,x8,x9,x10,x11⟩:=cells12 HX.out
 obtain ⟨z0,z1,z2,z3,z4,z5,z6,z7,z8,z9,z10,z11⟩:=cells12 HZ.out
 have y0:=fun k=>frozen_heap HZ.out k
 have hD:=Below.refl W.heap.size W
 go_region_held3 (fun w'=>∀o,w'.cell? ⟨w.heap.size,o,none⟩=W.cell? ⟨w.heap.size,o,none⟩)
  (first|with_reducible exact fun o=>(far12 hne o).trans ((hD).cell (p:=⟨w.heap.size,o,none⟩) hlt)|with_reducible exact fun o=>(far12 hne o).trans ((hD.drew).cell (p:=⟨w.heap.size,o,none⟩) hlt)|with_reducible exact fun o=>(far12 hne o).trans ((below_new hD _).cell (p:=⟨w.heap.size,o,none⟩) hlt)|with_reducible exact fun o=>(far12 hne o).trans (((below_new hD _).drew).cell (p:=⟨w.heap.size,o,none⟩) hlt)|with_reducible exact fun o=>(far12 hne o).trans ((below_new hD.drew _).cell (p:=⟨w.heap.size,o,none⟩) hlt)|with_reducible exact fun o=>(far12 hne o).trans (((below_new hD.drew _).drew).cell (p:=⟨w.heap.size,o,none⟩) hlt)|with_reducible exact fun o=>(hD).cell (p:=⟨w.heap.size,o,none⟩) hlt|with_reducible exact fun o=>(hD.drew).cell (p:=⟨w.heap.size,o,none⟩) hlt|with_reducible exact fun o=>(below_new hD _).cell (p:=⟨w.heap.size,o,none⟩) hlt|with_reducible exact fun o=>((below_new hD _).drew).cell (p:=⟨w.heap.size,o,none⟩) hlt|with_reducible exact fun o=>(below_new hD.drew _).cell (p:=⟨w.heap.size,o,none⟩) hlt|with_reducible exact fun o=>((below_new hD.drew _).drew).cell (p:=⟨w.heap.size,o,none⟩) hlt)
  (first
   | (go_at_call 48;(with_reducible refine (l19Copy_any A1 n1 c1 fs _ (HI.out.frames.below (below_tr HB0.out (by first|with_reducible exact hD|with_reducible exact hD.drew|with_reducible exact below_new hD _|with_reducible exact (below_new hD _).drew|with_reducible exact below_new hD.drew _|with_reducible exact (below_new hD.drew _).drew))) hz1).mono ?_);rintro e w1 ⟨B1,e1,rfl,o1,b1⟩;have O1:=Lib.hid o1;have hb1:=Lib.hid b1;have hD2:=below_tr (a:=W) (by first|with_reducible exact hD|with_reducible exact hD.drew|with_reducible exact below_new hD _|with_reducible exact (below_new hD _).drew|with_reducible exact below_new hD.drew _|with_reducible exact (below_new hD.drew _).drew) b1;clear b1 o1;replace hD:=hD2;clear z0 z1 z2 z3 z4 z5 z6 z7 z8 z9 z10 z11 y0;have HZc:=heap_tr hD HZ.out;obtain ⟨z0,z1,z2,z3,z4,z5,z6,z7,z8,z9,z10,z11⟩:=cells12 HZc;have y0:=fun k=>frozen_heap HZc k;clear HZc)
   | (go_at_call 48;(with_reducible refine (l19Copy_any A3 n3 c3 sv _ (HI.out.saved.below (below_tr HB0.out (by first|with_reducible exact hD|with_reducible exact hD.drew|with_reducible exact below_new hD _|with_reducible exact (below_new hD _).drew|with_reducible exact below_new hD.drew _|with_reducible exact (below_new hD.drew _).drew))) hz3).mono ?_);rintro e w3 ⟨B3,e3,rfl,o3,b3⟩;have O3:=Lib.hid o3;have hb3:=Lib.hid b3;have hD2:=below_tr (a:=W) (by first|with_reducible exact hD|with_reducible exact hD.drew|with_reducible exact below_new hD _|with_reducible exact (below_new hD _).drew|with_reducible exact below_new hD.drew _|with_reducible exact (below_new hD.drew _).drew) b3;clear b3 o3;replace hD:=hD2;clear z0 z1 z2 z3 z4 z5 z6 z7 z8 z9 z10 z11 y0;have HZc:=heap_tr hD HZ.out;obtain ⟨z0,z1,z2,z3,z4,z5,z6,z7,z8,z9,z10,z11⟩:=cells12 HZc;have y0:=fun k=>frozen_heap HZc k;clear HZc)
   | (refine step_append_new rfl _ _ (by rfl) _ (by rfl) (by first|exact Own.newAt rfl (Nat.le_refl _)|exact (Own.newAt rfl (Nat.le_refl _)).drewd|exact Own.below (Own.newAt (w:=W) rfl (Nat.le_refl _)) hb1.out|exact Own.below (Own.drewd (Own.newAt (w:=W) rfl (Nat.le_refl _))) hb1.out|exact Own.below (Own.newAt (w:=W.drew) rfl (Nat.le_refl _)) hb1.out) A2 n2 c2 st (by rfl) (HI.out.state.below (below_tr HB0.out (by first|with_reducible exact hD|with_reducible exact hD.drew|with_reducible exact below_new hD _|with_reducible exact (below_new hD _).drew|with_reducible exact below_new hD.drew _|with_reducible exact (below_new hD.drew _).drew))) hln W.heap.size (by first|exact Nat.le_refl _|exact hD.size) (by first|with_reducible exact hD|with_reducible exact hD.drew|with_reducible exact below_new hD _|with_reducible exact (below_new hD _).drew|with_reducible exact below_new hD.drew _|with_reducible exact (below_new hD.drew _).drew) ?_;rintro B2 e2 w2 q2 o2 l2 hx2 hxw b2 c2';have O2:=Lib.hid o2;have L2:=Lib.hid l2;have C2:=Lib.hid c2';clear o2 l2 c2';replace hD:=b2;clear z0 z1 z2 z3 z4 z5 z6 z7 z8 z9 z10 z11 y0;have HZc:=heap_tr hD HZ.out;obtain ⟨z0,z1,z2,z3,z4,z5,z6,z7,z8,z9,z10,z11⟩:=cells12 HZc;have y0:=fun k=>frozen_heap HZc k;clear HZc))
 all_goals
  clear z0 z1 z2 z3 z4 z5 z6 z7 z8 z9 z10 z11 y0 x0 x1 x2 x3 x4 x5 x6 x7 x8 x9 x10 x11
  go_wp2_with fail
  have e0:W.drew.heap.size=W.heap.size:=rfl
  have e7:(W.alloc (.cells #[] 3)).drew.heap.size=W.heap.size+1:=by show (W.alloc _).heap.size=_;simp
  have e8:(w1.alloc (.cells #[] 3)).heap.size=w1.heap.size+1:=by simp
  have e9:(w1.alloc (.cells #[] 3)).drew.heap.size=w1.heap.size+1:=by show (w1.alloc _).heap.size=_;simp
  have hs9:=hD.size
  have hs1:=hb1.out.size
  have hs2:=C2.out.size
  have hs3:=hb3.out.size
  have hs4:=HB0.out.size
  have K1:=O1.out
  have L2':=L2.out
  have hK1:∃l1,Own2 l1 w1.heap.size w2 B1 n1 e1 fs∧W.heap.size≤l1∧l1≤w1.heap.size∧(w1.heap.size≤q2∨q2+1≤l1):=by
   first
    | exact ⟨_,(K1.below (below_new (Below.refl _ _) _)).chg C2.out (by omega),by omega,by omega,by omega⟩
    | exact ⟨_,K1.chg C2.out (by omega),by omega,by omega,by omega⟩
  obtain ⟨l1,k1,hl1,hl2,hl3⟩:=hK1
  have hq2:W.heap.size≤q2:=by omega
  clear K1
  generalize hWF:World.setCell _ _ _=WF
  have hb:WF.heap[w.heap.size+1]?=some (.cells (bdArr ⟨d,fs,st,ph,r,sv⟩ ⟨B1,n1,e1,B2,n2,e2,B3,n3,e3⟩) 31 (0,0)):=by
   rw [←hWF]
   exact set12 (heap_tr hD HZ.out)
  have hC:Chg (w.heap.size+1) (w.heap.size+2) w3 WF:=by
   rw [←hWF]
   repeat (first|with_reducible exact Chg.refl _ _ _|with_reducible refine Chg.set ?_ (by omega) (by omega) _)
  have hB:Below w.heap.size w WF:=by
   have h0:=below_tr HB0.out hD
   rw [←hWF]
   repeat (first|with_reducible exact h0|with_reducible refine Below.setCell ?_ (by simp only;omega) _)
  have hsz5:=hC.size
  have K1:=(k1.below hb3.out).chg hC (.inr (by omega))
  have K2:=(O2.out.below hb3.out).chg hC L2' (.inr (by omega))
  have K3:=O3.out.chg hC (.inr (by omega))
  clear hWF
  refine bodyPost_ret (v := .agg (bdArr ⟨d,fs,st,ph,r,sv⟩ ⟨B1,n1,e1,B2,n2,e2,B3,n3,e3⟩)) (results_cell1 Tryz.results55 rfl hb Tryz.underlying31 (by kernel_rfl)) rfl ⟨⟨B1,n1,e1,B2,n2,e2,B3,n3,e3⟩,rfl,?_,hB⟩
  exact ⟨_,_,_,_,_,_,K1,K2,L2',K3,by unfold Ap;omega,by unfold Ap;omega,by unfold Ap;omega,⟨by omega,by omega⟩,⟨by omega,by omega⟩,⟨by omega,by omega⟩⟩
end Go.Proofs.YtbnfdhidgdfbeaaGreat
