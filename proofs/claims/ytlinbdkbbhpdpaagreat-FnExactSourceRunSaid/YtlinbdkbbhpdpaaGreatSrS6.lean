/- Maps with numbers as keys. Rows of truths that the call owns: sets of small numbers. The order of evaluation in the reference (printed by mkss4.py). The order of evaluation in the reference: the whole of it (printed by mkss5.py). Flat modules in the reference (printed by mkss6.py). -/
import Derived.Maps.OwnOps
import Derived.Maps.OwnSet
import Derived.Test.YtlinbdkbbhpdpaaGreatBase
import Derived.Test.YtlinbdkbbhpdpaaGreatSep
import Derived.Test.YtlinbdkbbhpdpaaGreatSrF9
import Derived.Test.YtlinbdkbbhpdpaaGreatSrS3
namespace Go.Proofs.YtlinbdkbbhpdpaaGreat
set_option maxRecDepth 100000
open Go.RowKit

end Go.Proofs.YtlinbdkbbhpdpaaGreat

namespace Go.Proofs.YtlinbdkbbhpdpaaGreat
set_option maxRecDepth 100000
open Go.RowKit

/-- Block b is a row of n truths: true at the elements of l. -/
def RowB (w:World) (b n:Nat) (l:List Int):Prop:=∃vs:Array Value,w.heap[b]?=some (.cells vs 4 (0,0))∧vs.size=n∧∀j,j<n→vs[j]?=some (.bool (decide ((j:Int)∈l)))
theorem RowB.made (w:World) (n:Nat):RowB (w.alloc (.cells (madeCells #[.bool false] n) 4)) w.heap.size n []:=by
 refine ⟨_,heap_new w _,size_madeCells _ _,fun j hj=>?_⟩
 rw [←Array.getElem?_toList,toList_madeCells_one,List.getElem?_replicate,if_pos hj]
 rfl
theorem RowB.keep {w w':World} {b n:Nat} {l:List Int} (h:RowB w b n l) (hk:w'.heap[b]?=w.heap[b]?):RowB w' b n l:=by
 obtain ⟨vs,h1,h2⟩:=h
 exact ⟨vs,hk.trans h1,h2⟩
theorem RowB.cell {w:World} {b n j:Nat} {l:List Int} (h:RowB w b n l) (hj:j<n):w.cell? ⟨b,j,none⟩=some (.bool (decide ((j:Int)∈l)))∧w.frozen? ⟨b,j,none⟩=false:=by
 obtain ⟨vs,h1,_,h2⟩:=h
 exact ⟨cell_heap h1 (h2 j hj),frozen_heap h1 j⟩
theorem RowB.set {w:World} {b n k:Nat} {l:List Int} (h:RowB w b n l) (hk:k<n):RowB (w.setCell ⟨b,k,none⟩ (.bool true)) b n (l++[(k:Int)]):=by
 obtain ⟨vs,h1,h2,h3⟩:=h
 refine ⟨_,heap_set h1 k _,by simp [h2],fun j hj=>?_⟩
 rw [Array.getElem?_setIfInBounds]
 by_cases e:k=j
 ·subst e
  rw [if_pos rfl,if_pos (by omega)]
  simp
 ·rw [if_neg e,h3 j hj]
  have:(j:Int)≠(k:Int):=by omega
  simp [this]
abbrev rowBPc (b n:Nat) (l:List Int):Pc := .own b fun w=>RowB w b n l
theorem grown_set (w:World) (b k:Nat) (v:Value):w.grownBy (w.setCell ⟨b,k,none⟩ v) (some b) :=
 ⟨rfl,rfl,rfl,by simp [World.setCell],fun i _ hn=>Below.heap_setCell w ⟨b,k,none⟩ v i fun e=>hn (by rw [e])⟩
theorem Sepa.pushRowB {W w:World} {ps:List Pc} (h:Sepa W w ps) (n:Nat):Sepa W (w.alloc (.cells (madeCells #[.bool false] n) 4)) (ps++[rowBPc w.heap.size n []]) :=
 h.push (below_new (Below.refl _ _) _) (G:=[w.heap.size]) ⟨rfl,by simp,RowB.made w n,fun _ _ e h=>h.keep e⟩ (by simp) (by simp)
/-- What a row of truths among the pieces holds, and one more number in it. -/
theorem Sepa.truth {W w:World} {ps:List Pc} (S:Sepa W w ps) (i:Nat) {b n k:Nat} {l:List Int} (hi:ps[i]?=some (rowBPc b n l)) (hk:k<n) :
  w.cell? ⟨b,k,none⟩=some (.bool (decide ((k:Int)∈l)))∧w.frozen? ⟨b,k,none⟩=false∧(W.heap.size≤b∧b<w.heap.size)∧Sepa W (w.setCell ⟨b,k,none⟩ (.bool true)) (ps.set i (rowBPc b n (l++[(k:Int)]))):=by
 obtain ⟨h1,h2,h3⟩:=S.own i hi
 exact ⟨(h1.cell hk).1,(h1.cell hk).2,⟨h2,h3⟩,S.own_upd i hi (grown_set w b k _) (h1.set hk) (fun _ _ e h=>h.keep e)⟩
theorem bool_info:(Tryz.prog.info? 4).map (fun i=>(i.zero,i.size,i.bytes))=some (some (.bool false),1,1):=by kernel_rfl
theorem run_make_bools (n:Nat) (hn:n≤1048576) (w:World):(Instr.makeSlice 84 (.int .i64 (n:Int)) (.int .i64 (n:Int))).run Tryz.prog w = .ok (.slice (some ⟨w.heap.size,0,none⟩) n n) (w.alloc (.cells (madeCells #[.bool false] n) 4)):=by
 obtain ⟨i0,hi,hz0,hz1,hz2⟩:=info_parts bool_info
 have h:=run_make_rowN (P:=Tryz.prog) 84 4 i0 _ Tryz.underlying84 hi hz0 .i64 .i64 n n (Nat.le_refl _) (by rw [hz2];omega) (by omega) w
 rw [hz1,Nat.mul_one] at h
 exact h
end Go.Proofs.YtlinbdkbbhpdpaaGreat

namespace Go.Proofs.YtlinbdkbbhpdpaaGreat
set_option maxRecDepth 100000
open Go.RowKit

theorem RowB.off {w:World} {b n k:Nat} {l l':List Int} (h:RowB w b n l) (_hk:k<n) (hl:∀j:Nat,j<n→((j:Int)∈l'↔(j:Int)∈l∧j≠k)):RowB (w.setCell ⟨b,k,none⟩ (.bool false)) b n l':=by
 obtain ⟨vs,h1,h2,h3⟩:=h
 refine ⟨_,heap_set h1 k _,by simp [h2],fun j hj=>?_⟩
 rw [Array.getElem?_setIfInBounds]
 by_cases e:k=j
 ·subst e
  rw [if_pos rfl,if_pos (by omega)]
  have:¬(k:Int)∈l':=fun hm=>((hl k hj).1 hm).2 rfl
  simp [this]
 ·rw [if_neg e,h3 j hj]
  have h4:decide ((j:Int)∈l)=decide ((j:Int)∈l'):=by
   by_cases hm:(j:Int)∈l
   ·rw [decide_eq_true hm,decide_eq_true ((hl j hj).2 ⟨hm,fun e2=>e e2.symm⟩)]
   ·rw [decide_eq_false hm,decide_eq_false fun h5=>hm ((hl j hj).1 h5).1]
  rw [h4]
theorem Sepa.truthOff {W w:World} {ps:List Pc} (S:Sepa W w ps) (i:Nat) {b n k:Nat} {l l':List Int} (hi:ps[i]?=some (rowBPc b n l)) (hk:k<n) (hl:∀j:Nat,j<n→((j:Int)∈l'↔(j:Int)∈l∧j≠k)):Sepa W (w.setCell ⟨b,k,none⟩ (.bool false)) (ps.set i (rowBPc b n l')):=by
 obtain ⟨h1,h2,h3⟩:=S.own i hi
 exact S.own_upd i hi (grown_set w b k _) (h1.off hk hl) (fun _ _ e h=>h.keep e)
/-- The signals that are targets of what is still to come. -/
def openL (m:MdT) (todo:List Nat):List Int:=todo.map fun j=>(asK m j).target
theorem openL_iff {m:MdT} {todo:List Nat} {s:Int}:s∈openL m todo↔openB m todo s=true:=by
 rw [openB_iff]
 unfold openL
 rw [List.mem_map]
/-- An expression waits for one of these signals. -/
def WaitP (ops:List OpT) (l:List Int):Prop:=∃o∈ops,(o.kind=2∨o.kind=3)∧o.a∈l
theorem waitP_free {m:MdT} {todo:List Nat} {i:Nat}:WaitP (asK m i).ops (openL m todo)↔freeB m todo i=false:=by
 rw [freeB_iff]
 unfold WaitP
 constructor
 ·rintro ⟨o,h1,h2,h3⟩;exact ⟨o,h1,h2,openL_iff.1 h3⟩
 ·rintro ⟨o,h1,h2,h3⟩;exact ⟨o,h1,h2,openL_iff.2 h3⟩
theorem ops_rd {n:Int}:∀{ops:List OpT} {need:Int},OpsN n need ops→∀o∈ops,(o.kind=2∨o.kind=3)→0≤o.a∧o.a<n
 | [],_,_,o,ho,_=>by simp at ho
 | q :: r,need,h,o,ho,hk=>by
  rcases List.mem_cons.1 ho with rfl|ho
  ·have h1:=h.2.1
   unfold OpFit at h1
   rcases hk with hk|hk
   ·rw [if_neg (by omega),if_pos hk] at h1;exact h1.1
   ·rw [if_neg (by omega),if_neg (by omega),if_pos hk] at h1;exact h1.1
  ·exact ops_rd h.2.2 o ho hk
set_option maxHeartbeats 1000000 in
theorem sl06Waits_any (ops:List OpT) (A:Option Addr) (on oc g n:Nat) (l:List Int) (w:World) (h:RdC w w.heap.size (celOp ops) (.slice A on oc)) (hr:RowB w g n l) (_hg:g<w.heap.size) (hop:∀o∈ops,(o.kind=2∨o.kind=3)→0≤o.a∧o.a<n) (hn:on≤1048576) :
  Calls Tryz.prog 197 #[.slice A on oc,.slice (some ⟨g,0,none⟩) n n] w fun e w'=>e = .returned (.bool (tb (WaitP ops l)))∧w=w':=by
 have HL:=Lib.hid h.opN
 have HO:=Lib.hid h
 have HROW:=Lib.hid hr
 have HOP:=Lib.hid hop
 clear h hr hop
 go_enter Tryz.func197,Tryz.ntmps197
 go_wp2_with fail
 go_loopw [5] (fun i wr=>∃k:Nat,k≤on∧i = .int .i64 (k:Int)∧w=wr∧∀j,j<k→¬(((ops[j]?.getD OpT.zero).kind=2∨(ops[j]?.getD OpT.zero).kind=3)∧(ops[j]?.getD OpT.zero).a∈l)) (fun i _=>on - (intOf i).toNat)
 case atStart=>exact ⟨0,by omega,rfl,rfl,fun j hj=>by omega⟩
 case round =>
  obtain ⟨k,hk,rfl,rfl,hall⟩:=hrel
  have HALL:=Lib.hid hall
  clear hall
  by_cases hlt:k<on
  ·have hdk:decide ((k:Int)<(on:Int))=true:=by simp;omega
   have i0:(0:Int)≤(k:Int):=by omega
   have i1:(k:Int)<(on:Int):=by omega
   have hkl:k<ops.length:=by rw [HL.out];exact hlt
   obtain ⟨bo,oo,rfl,hbo,e0,e1,e2⟩:=HO.out.opE (k:=k) hkl
   have HIN:=Lib.hid (HOP.out (ops[k]?.getD OpT.zero) (by rw [List.getElem?_eq_getElem hkl];exact List.getElem_mem hkl))
   have HGT:Hid (ops[k]?=some (ops[k]?.getD OpT.zero)):=getD_some OpT.zero hkl
   clear hkl
   obtain ⟨q,hq⟩:∃q,ops[k]?.getD OpT.zero=q:=⟨_,rfl⟩
   rw [hq] at e0 e1 e2 HGT HIN
   have HQ:=Lib.hid hq
   clear hq
   obtain ⟨kd,a,b⟩:=q
   simp only at e0 e1 e2 HIN
   by_cases k2:kd=2
   ·have d2:(kd==2)=true:=by simp [k2]
    have ha:=HIN.out (show kd=2∨kd=3 by omega)
    obtain ⟨Q,rfl⟩:∃Q:Nat,a=(Q:Int):=⟨a.toNat,by omega⟩
    have hq:=(HROW.out.cell (j:=Q) (by omega)).1
    have q0:(0:Int)≤(Q:Int):=by omega
    have q1:(Q:Int)<(n:Int):=by omega
    by_cases hm:(Q:Int)∈l
    ·rw [decide_eq_true hm] at hq
     have HR:Hid (WaitP ops l):=⟨⟨kd,(Q:Int),b⟩,List.mem_of_getElem? HGT.out,by simp only;omega,hm⟩
     clear hm k2
     go_wp2_with fail
     go_ret
     exact ⟨ret_tt HR.out,rfl⟩
    ·rw [decide_eq_false hm] at hq
     have HG:=Lib.hid (all_succ (p:=fun j=>¬(((ops[j]?.getD OpT.zero).kind=2∨(ops[j]?.getD OpT.zero).kind=3)∧(ops[j]?.getD OpT.zero).a∈l)) HALL.out (by rw [HGT.out];exact fun h=>hm h.2))
     clear hm k2
     go_wp2_with fail
     go_roundw
     case rel=>exact ⟨k+1,by omega,by go_num,by first|rfl|trivial,HG.out⟩
     case measure=>simp [intOf];omega
   ·have d2:(kd==2)=false:=by simp [k2]
    by_cases k3:kd=3
    ·have d3:(kd==3)=true:=by simp [k3]
     have ha:=HIN.out (show kd=2∨kd=3 by omega)
     obtain ⟨Q,rfl⟩:∃Q:Nat,a=(Q:Int):=⟨a.toNat,by omega⟩
     have hq:=(HROW.out.cell (j:=Q) (by omega)).1
     have q0:(0:Int)≤(Q:Int):=by omega
     have q1:(Q:Int)<(n:Int):=by omega
     by_cases hm:(Q:Int)∈l
     ·rw [decide_eq_true hm] at hq
      have HR:Hid (WaitP ops l):=⟨⟨kd,(Q:Int),b⟩,List.mem_of_getElem? HGT.out,by simp only;omega,hm⟩
      clear hm k3
      go_wp2_with fail
      go_ret
      exact ⟨ret_tt HR.out,rfl⟩
     ·rw [decide_eq_false hm] at hq
      have HG:=Lib.hid (all_succ (p:=fun j=>¬(((ops[j]?.getD OpT.zero).kind=2∨(ops[j]?.getD OpT.zero).kind=3)∧(ops[j]?.getD OpT.zero).a∈l)) HALL.out (by rw [HGT.out];exact fun h=>hm h.2))
      clear hm k3
      go_wp2_with fail
      go_roundw
      case rel=>exact ⟨k+1,by omega,by go_num,by first|rfl|trivial,HG.out⟩
      case measure=>simp [intOf];omega
    ·have d3:(kd==3)=false:=by simp [k3]
     have HG:=Lib.hid (all_succ (p:=fun j=>¬(((ops[j]?.getD OpT.zero).kind=2∨(ops[j]?.getD OpT.zero).kind=3)∧(ops[j]?.getD OpT.zero).a∈l)) HALL.out (by rw [HGT.out];exact fun h=>h.1.elim k2 k3))
     clear k2 k3
     go_wp2_with fail
     go_roundw
     case rel=>exact ⟨k+1,by omega,by go_num,by first|rfl|trivial,HG.out⟩
     case measure=>simp [intOf];omega
  ·have hkn:k=on:=by omega
   subst hkn
   have hdk:decide ((k:Int)<(k:Int))=false:=by simp
   have HR:Hid (¬WaitP ops l):=by
    rintro ⟨o,ho,h1,h2⟩
    obtain ⟨j,hj,rfl⟩:=List.getElem_of_mem ho
    have h3:=HALL.out j (by rw [←HL.out];exact hj)
    rw [List.getElem?_eq_getElem hj,Option.getD_some] at h3
    exact h3 ⟨h1,h2⟩
   go_wp2_with fail
   go_ret
   exact ⟨ret_ff HR.out,rfl⟩
end Go.Proofs.YtlinbdkbbhpdpaaGreat

namespace Go.Proofs.YtlinbdkbbhpdpaaGreat
set_option maxRecDepth 100000
open Go.RowKit

theorem openL_snoc (m:MdT) (l:List Nat) (k:Nat):openL m (l++[k])=openL m l++[(asK m k).target]:=by simp [openL]
theorem ev_at {m:MdT} {todo out:List Nat} {R:Option (List Nat)} {p:Nat} (h:evRun m todo.length todo out=R) (hp:todo.findIdx? (freeB m todo)=some p):p<todo.length∧evRun m (todo.eraseIdx p).length (todo.eraseIdx p) (out++[todo[p]?.getD 0])=R:=by
 obtain ⟨h1,h2,h3⟩:=List.findIdx?_eq_some_iff_getElem.1 hp
 refine ⟨h1,ev_hit h h1 (by rw [List.getElem?_eq_getElem h1,Option.getD_some];exact h2) fun j hj=>?_⟩
 have:=h3 j hj
 rw [List.getElem?_eq_getElem (by omega),Option.getD_some]
 simpa using this
set_option maxHeartbeats 4000000 in
theorem sevalOrder_any (m:MdT) (SA AA JA MA:Option Addr) (sn sc an ac jn jc mn mc:Nat) (w:World) (h:MdRd w m SA AA JA MA sn sc an ac jn jc mn mc) :
  Calls Tryz.prog 152 #[.agg #[.slice SA sn sc,.slice AA an ac,.slice JA jn jc,.slice MA mn mc]] w fun e w'=>(∃o A c,evalOrd m=some o∧e = .returned (.tuple #[.slice A o.length c,.bool true])∧Sepa w w' [.cel (celI (natI o)) (.slice A o.length c)])∨(evalOrd m=none∧(∃A c,e = .returned (.tuple #[.slice A 0 c,.bool false]))∧Below w.heap.size w w'):=by
 have HB0:=Lib.hid (below_new (Below.refl w.heap.size w) (.cells #[.slice SA sn sc,.slice AA an ac,.slice JA jn jc,.slice MA mn mc] 108))
 have HXB:=Lib.hid (heap_new w (.cells #[.slice SA sn sc,.slice AA an ac,.slice JA jn jc,.slice MA mn mc] 108))
 have HL1:=Lib.hid h.lens.1
 have HL2:=Lib.hid h.lens.2.1
 have HL3:=Lib.hid h.lens.2.2.1
 have HM:=Lib.hid h
 clear h
 by_cases hj0:jn=0
 ·have HJ0:Hid (m.insts.length=0):=HL3.out.trans hj0
  subst hj0
  go_enter Tryz.func152,Tryz.ntmps152
  go_upto_region 1 with fail
  generalize w.alloc (.cells #[.slice SA sn sc,.slice AA an ac,.slice JA 0 jc,.slice MA mn mc] 108)=W9 at *
  have HSO:=Lib.hid ((Sepa.refl W9).pushNew 3 1)
  go_upto_region 2 with fail
  obtain ⟨g0,hg0⟩:∃g,W9.heap.size=g:=⟨_,rfl⟩
  rw [hg0] at HSO
  (try rw [hg0])
  clear hg0
  generalize W9.alloc (.cells #[] 3)=Wa at *
  have hx:=heap_tr HSO.out.bel HXB.out
  have x0:=cell_heap (k:=0) hx rfl
  have x1:=cell_heap (k:=1) hx rfl
  have x2:=cell_heap (k:=2) hx rfl
  have x3:=cell_heap (k:=3) hx rfl
  have lx:=heap_lt0 hx
  clear hx
  have HR1:=Lib.hid (one_md (HM.out.below (below_tr HB0.out HSO.out.bel)))
  have HSA:=Lib.hid (HSO.out.alloc (.cells #[.slice SA sn sc,.slice AA an ac,.slice JA 0 jc,.slice MA mn mc] 108))
  go_wp2_with fail
  refine (sdesignOk_any [m] _ 1 1 _ HR1.out).mono ?_
  by_cases hds:DsFit [m]
  ·rw [tb_true hds]
   rintro _ w1 ⟨rfl,b1⟩
   have HS1:=Lib.hid (HSA.out.below b1)
   have HDS:=Lib.hid hds
   clear b1 x0 x1 x2 x3 lx HSA
   have hcn:MdCnt m:=hds.one.cnt.2 0 (by simp)
   have hs30:sn≤30:=by have h1:=hcn.sg;rw [HL1.out] at h1;exact h1
   have ha30:an≤30:=by have h1:=hcn.asg;rw [HL2.out] at h1;exact h1
   clear hcn hds
   have HS2:=Lib.hid (HS1.out.pushRowB sn)
   have hmk:=fun W=>run_make_bools sn (by omega) W
   have hx:=heap_tr HS1.out.bel HXB.out
   have x0:=cell_heap (k:=0) hx rfl
   have lx:=heap_lt0 hx
   clear hx
   go_upto_region 5 with fail
   obtain ⟨g,hg⟩:∃g,w1.heap.size=g:=⟨_,rfl⟩
   rw [hg] at HS2
   (try rw [hg])
   clear hg
   generalize w1.alloc (.cells (madeCells #[.bool false] sn) 4)=W7 at *
   clear x0 lx hmk
   go_wp2_with fail
   go_loopw [6,7] (fun v i wr=>∃k:Nat,k≤an∧i = .int .i64 (k:Int)∧v = .int .i64 ((todoTo m k).length:Int)∧Sepa W9 wr [.cel (celI (natI [])) (.slice (some ⟨g0,0,none⟩) 0 0),rowBPc g sn (openL m (todoTo m k))]) (fun _ i _=>an - (intOf i).toNat)
   case atStart=>exact ⟨0,by omega,rfl,rfl,HS2.out⟩
   case round =>
    obtain ⟨k,hk,rfl,rfl,hs⟩:=hrel
    have HS:=Lib.hid hs
    have HB:=Lib.hid (below_tr HB0.out hs.bel)
    clear hs
    have hx:=heap_tr HS.out.bel HXB.out
    have x1:=cell_heap (k:=1) hx rfl
    have lx:=heap_lt0 hx
    clear hx
    by_cases hlt:k<an
    ·have hdk:decide ((k:Int)<(an:Int))=true:=by simp;omega
     have i0:(0:Int)≤(k:Int):=by omega
     have i1:(k:Int)<(an:Int):=by omega
     have hkl:k<m.asgs.length:=by rw [HL2.out];exact hlt
     obtain ⟨ba,oa,QA,qn,qc,hAA,hba,c0,c1,r0⟩:=HM.out.asg.asE (k:=k) hkl
     subst hAA
     have c0:=(HB.out.cell (p:=⟨ba,oa+k * 2,none⟩) hba).trans c0
     have lba:=below_lt HB.out hba
     have htg:=tgt_in HDS.out hkl
     have HTK:Hid (todoTo m (k+1)=todoTo m k++if (sgK m.sigs (m.asgs[k]?.getD AsT.zero).target.toNat).kind=3 then [] else [k]):=rfl
     have HTG:Hid ((asK m k).target=(m.asgs[k]?.getD AsT.zero).target):=rfl
     have htl:=todoTo_len m k
     unfold asK at htg
     generalize (m.asgs[k]?.getD AsT.zero).target=tg at *
     clear hkl c1 r0
     obtain ⟨Q,rfl⟩:∃Q:Nat,tg=(Q:Int):=⟨tg.toNat,by omega⟩
     rw [Int.toNat_natCast] at HTK
     have hQs:Q<sn:=by have h1:=HL1.out;omega
     obtain ⟨bs,os,hSA,hbs,z0,z1,z2⟩:=HM.out.sg.sgE (k:=Q) (by rw [HL1.out];exact hQs)
     have HKD:Hid ((sgK m.sigs Q).kind=(m.sigs[Q]?.getD SgT.zero).kind):=rfl
     rw [HKD.out] at HTK
     generalize (m.sigs[Q]?.getD SgT.zero).kind=kd at *
     subst hSA
     have z0:=(HB.out.cell (p:=⟨bs,os+Q * 3,none⟩) hbs).trans z0
     have lbs:=below_lt HB.out hbs
     clear z1 z2 HKD htg
     have q0:(0:Int)≤(Q:Int):=by omega
     have q1:(Q:Int)<(sn:Int):=by omega
     clear x1 lx
     have hx:=heap_tr HS.out.bel HXB.out
     have x0:=cell_heap (k:=0) hx rfl
     have x1:=cell_heap (k:=1) hx rfl
     have lx:=heap_lt0 hx
     clear hx
     go_upto_region 9 with fail
     by_cases h3:kd=3
     ·have d3:(kd != 3)=false:=by simp [h3]
      rw [if_pos h3,List.append_nil] at HTK
      clear h3
      have hsub:=sub_ne wr
      have hsc:=sub_cell wr
      refine wp_region_below wr (by kernel_rfl) (by kernel_rfl) (Below.refl _ _) ?_
      repeat (go_big_quiet_step (fail))
      refine wpQuiet_nil ?_
      rintro _ ⟨⟨w5,hD⟩,rfl⟩
      clear hsub hsc
      have HS2:=Lib.hid (HS.out.below hD)
      clear hD
      go_wp2_with fail
      go_roundw
      case rel=>exact ⟨k+1,by omega,by go_num,by rw [HTK.out],by rw [HTK.out];exact HS2.out⟩
      case measure=>simp [intOf];omega
     ·have d3:(kd != 3)=true:=by simp [h3]
      rw [if_neg h3] at HTK
      clear h3
      have hsub:=sub_ne wr
      have hsc:=sub_cell wr
      refine wp_region_below wr (by kernel_rfl) (by kernel_rfl) (Below.refl _ _) ?_
      repeat (go_big_quiet_step (fail))
      refine wpQuiet_nil ?_
      rintro _ ⟨⟨w5,hD⟩,rfl⟩
      clear hsub hsc
      have HS2:=Lib.hid (HS.out.below hD)
      have c0:=(hD.cell (p:=⟨ba,oa+k * 2,none⟩) lba).trans c0
      have lba:=below_lt hD lba
      clear hD x0 x1 lx z0 lbs
      have hx:=heap_tr HS2.out.bel HXB.out
      have x1:=cell_heap (k:=1) hx rfl
      have lx:=heap_lt0 hx
      clear hx
      obtain ⟨b0,f0,⟨-,lg⟩,hU⟩:=HS2.out.truth 1 rfl hQs
      have HU:=Lib.hid hU
      clear hU
      go_wp2_with fail
      go_roundw
      case rel=>exact ⟨k+1,by omega,by go_num,by rw [HTK.out,List.length_append];rfl,by rw [HTK.out,openL_snoc,HTG.out];exact HU.out⟩
      case measure=>simp [intOf];omega
    ·have hkn:k=an:=by omega
     have hdk:decide ((k:Int)<(an:Int))=false:=by simp;omega
     clear hlt
     subst k
     have HE0:Hid (evRun m (todoTo m an).length (todoTo m an) []=evalOrd m):=by show _=_;unfold evalOrd;rw [if_pos ⟨HJ0.out,HDS.out⟩,HL2.out]
     go_wp2_with fail
     clear x1 lx
     go_loopw [4,6] (fun v u wr=>∃(todo out:List Nat) (tn:Nat) (B:Option Addr) (e:Nat),todo.length=tn∧v = .slice B out.length e∧u = .int .i64 (tn:Int)∧Sepa W9 wr [.cel (celI (natI out)) (.slice B out.length e),rowBPc g sn (openL m todo)]∧evRun m todo.length todo out=evalOrd m∧todo.Pairwise (·<·)∧(∀i∈todo,i<an)∧tn+out.length≤30) (fun _ u _=>(intOf u).toNat)
     case atStart=>exact ⟨todoTo m an,[],(todoTo m an).length,_,_,rfl,rfl,rfl,HS.out,HE0.out,todoTo_sorted m an,fun i hi=>(todoTo_lt hi).1,by have:=todoTo_len m an;simp only [List.length_nil];omega⟩
     case round =>
      obtain ⟨todo,out,tn,B,e,htn,rfl,rfl,hs,hrun,hsort,hta,hlen⟩:=hrel
      have HS:=Lib.hid hs
      have HBS:=Lib.hid hs.bel
      have HB3:=Lib.hid (below_tr HB0.out hs.bel)
      have HTN:=Lib.hid htn
      have HRUN:=Lib.hid hrun
      have HSO:=Lib.hid hsort
      have HTA:=Lib.hid hta
      clear hs htn hrun hsort hta
      obtain ⟨w3,rfl⟩:∃y,y=wr:=⟨wr,rfl⟩
      by_cases h0:tn=0
      ·have HR:Hid (evalOrd m=some out):=ev_done HRUN.out (by rw [HTN.out];exact h0)
       subst h0
       go_wp2_with fail
       go_ret2
       exact .inl ⟨out,_,_,HR.out,rfl,(HS.out.low HB0.out).sub (.cons_cons _ (.cons _ .slnil))⟩
      ·have d0:decide (0<tn)=true:=decide_eq_true (by omega)
       go_wp2_with fail
       go_loopw [8,9] (fun v i wr=>∃(k:Nat) (nx:Int),k≤an∧i = .int .i64 (k:Int)∧v = .int .i64 nx∧Below w3.heap.size w3 wr∧((nx=-1∧∀j,j<k→j∈todo→freeB m todo j=false)∨(∃q:Nat,nx=(q:Int)∧q<an∧q∈todo∧freeB m todo q=true∧∀j,j<q→j∈todo→freeB m todo j=false))) (fun _ i _=>an - (intOf i).toNat)
       case atStart=>exact ⟨0,-1,by omega,rfl,rfl,Below.refl _ _,.inl ⟨rfl,fun j hj=>by omega⟩⟩
       case round =>
        obtain ⟨k,nx,hk,rfl,rfl,hb,hall⟩:=hrel
        have HBW:=Lib.hid hb
        have HB:=Lib.hid (below_tr HB3.out hb)
        clear hb
        have hx:=heap_tr (below_tr HBS.out HBW.out) HXB.out
        have x1:=cell_heap (k:=1) hx rfl
        have lx:=heap_lt0 hx
        clear hx
        rcases hall with ⟨rfl,hall⟩|⟨q,rfl,hqa,hqm,hqf,hqall⟩
        ·have HALL:=Lib.hid hall
         clear hall
         by_cases hlt:k<an
         ·have hdk:decide ((k:Int)<(an:Int))=true:=by simp;omega
          have i0:(0:Int)≤(k:Int):=by omega
          have i1:(k:Int)<(an:Int):=by omega
          have hkl:k<m.asgs.length:=by rw [HL2.out];exact hlt
          obtain ⟨ba,oa,QA,qn,qc,hAA,hba,c0,c1,r0⟩:=HM.out.asg.asE (k:=k) hkl
          subst hAA
          have c0:=(HB.out.cell (p:=⟨ba,oa+k * 2,none⟩) hba).trans c0
          have c1:=(HB.out.cell (p:=⟨ba,oa+k * 2+1,none⟩) hba).trans c1
          have lba:=below_lt HB.out hba
          have htg:=tgt_in HDS.out hkl
          have HRO:Hid (RdC w w.heap.size (celOp (asK m k).ops) (.slice QA qn qc)):=Lib.hid r0
          have haf:=as_fit HDS.out hkl
          have hq15:qn≤15:=by have h1:=haf.2.1;rw [HRO.out.opN] at h1;exact h1
          have HOR:=Lib.hid (ops_rd haf.2.2)
          have HMM:=Lib.hid (openB_mem HDS.out (todo:=todo) (fun j hj=>by rw [HL2.out];exact HTA.out j hj) hkl)
          have HTG:Hid ((asK m k).target=(m.asgs[k]?.getD AsT.zero).target):=rfl
          unfold asK at htg
          rw [HTG.out] at HMM
          generalize (m.asgs[k]?.getD AsT.zero).target=tg at *
          clear hkl r0 haf
          obtain ⟨Q,rfl⟩:∃Q:Nat,tg=(Q:Int):=⟨tg.toNat,by omega⟩
          have hQs:Q<sn:=by have h1:=HL1.out;omega
          have HS4:=Lib.hid (HS.out.below HBW.out)
          obtain ⟨b0,f0,⟨-,lg⟩,-⟩:=HS4.out.truth 1 rfl hQs
          have HROW:=Lib.hid (HS4.out.own 1 rfl).1
          have q0:(0:Int)≤(Q:Int):=by omega
          have q1:(Q:Int)<(sn:Int):=by omega
          by_cases hm:k∈todo
          ·rw [decide_eq_true (openL_iff.2 (HMM.out.2 hm))] at b0
           by_cases hf:freeB m todo k=true
           ·have HW:=Lib.hid (tb_false (show ¬WaitP (asK m k).ops (openL m todo) from fun h=>by rw [waitP_free.1 h] at hf;cases hf))
            have HREL:=Lib.hid (⟨hlt,hm,hf,HALL.out⟩:k<an∧k∈todo∧freeB m todo k=true∧∀j,j<k→j∈todo→freeB m todo j=false)
            clear hm hf
            go_wp2_with fail
            refine (sl06Waits_any (asK m k).ops QA qn qc g sn (openL m todo) _ (HRO.out.below HB.out) HROW.out lg (fun o ho h=>by have:=HOR.out o ho h;rw [HL1.out] at this;exact this) (by omega)).mono ?_
            rw [HW.out]
            rintro _ w' ⟨rfl,rfl⟩
            go_wp2_with fail
            go_roundw
            case rel=>exact ⟨k+1,_,by omega,by go_num,rfl,HBW.out,.inr ⟨k,rfl,HREL.out⟩⟩
            case measure=>simp [intOf];omega
           ·have hff:freeB m todo k=false:=by simpa using hf
            have HW:=Lib.hid (tb_true (waitP_free.2 hff))
            have HG2:=Lib.hid (all_succ (p:=fun j=>j∈todo→freeB m todo j=false) HALL.out (fun _=>hff))
            clear hm hf hff
            go_wp2_with fail
            refine (sl06Waits_any (asK m k).ops QA qn qc g sn (openL m todo) _ (HRO.out.below HB.out) HROW.out lg (fun o ho h=>by have:=HOR.out o ho h;rw [HL1.out] at this;exact this) (by omega)).mono ?_
            rw [HW.out]
            rintro _ w' ⟨rfl,rfl⟩
            go_wp2_with fail
            go_roundw
            case rel=>exact ⟨k+1,_,by omega,by go_num,rfl,HBW.out,.inl ⟨rfl,HG2.out⟩⟩
            case measure=>simp [intOf];omega
          ·rw [decide_eq_false fun h=>hm (HMM.out.1 (openL_iff.1 h))] at b0
           have HG2:=Lib.hid (all_succ (p:=fun j=>j∈todo→freeB m todo j=false) HALL.out (fun h=>absurd h hm))
           clear hm
           go_wp2_with fail
           go_roundw
           case rel=>exact ⟨k+1,_,by omega,by go_num,rfl,HBW.out,.inl ⟨rfl,HG2.out⟩⟩
           case measure=>simp [intOf];omega
         ·have hkn:k=an:=by omega
          have hdk:decide ((k:Int)<(an:Int))=false:=by simp;omega
          clear hlt
          subst k
          have HR:Hid (evalOrd m=none):=ev_none HRUN.out (by rw [HTN.out];omega) (fun j hj=>by
           have hjm:todo[j]?.getD 0∈todo:=by rw [List.getElem?_eq_getElem hj];exact List.getElem_mem hj
           exact HALL.out _ (HTA.out _ hjm) hjm)
          go_wp2_with fail
          go_ret2
          exact .inr ⟨HR.out,⟨_,_,rfl⟩,below_tr (below_tr HB0.out HBS.out) (below_new HBW.out _)⟩
        ·obtain ⟨p,hp,hpe⟩:=first_of HSO.out hqm hqf hqall
         clear hqm hqf hqall
         by_cases hlt:k<an
         ·have hdk:decide ((k:Int)<(an:Int))=true:=by simp;omega
          have HEV:=Lib.hid (ev_at HRUN.out hp).2
          have hpl:=(ev_at HRUN.out hp).1
          rw [hpe] at HEV
          obtain ⟨ba,oa,QA,qn,qc,hAA,hba,c0,c1,r0⟩:=HM.out.asg.asE (k:=q) (by rw [HL2.out];exact hqa)
          subst hAA
          have htg:=tgt_in HDS.out (i:=q) (by rw [HL2.out];exact hqa)
          have HOE:=Lib.hid (fun s=>openB_erase HDS.out HSO.out (fun j hj=>by rw [HL2.out];exact HTA.out j hj) hpl s)
          rw [hpe] at HOE
          have HTG:Hid ((asK m q).target=(m.asgs[q]?.getD AsT.zero).target):=rfl
          unfold asK at htg
          rw [HTG.out] at HOE
          generalize (m.asgs[q]?.getD AsT.zero).target=tg at *
          obtain ⟨Q,rfl⟩:∃Q:Nat,tg=(Q:Int):=⟨tg.toNat,by omega⟩
          have hQs:Q<sn:=by have h1:=HL1.out;omega
          have hq0:decide ((q:Int)<0)=false:=decide_eq_false (by omega)
          have HS4:=Lib.hid (HS.out.below HBW.out)
          have HLO:Hid (out.length≤1099511627776):=by show _≤_;omega
          have q0:(0:Int)≤(Q:Int):=by omega
          have q1:(Q:Int)<(sn:Int):=by omega
          have r0':(0:Int)≤(q:Int):=by omega
          have r1':(q:Int)<(an:Int):=by omega
          have HPE:=Lib.hid hpe
          clear hp hpe c1 r0
          go_upto_region 22 with (at_builtin;refine wpList_sepPush rfl _ _ rfl _ (HS4.out.alloc _) 0 B out.length e (natI out) (q:Int) _ (0,0) rfl rfl rfl (heap_new _ _) HLO.out ?_;intro g9 cap w9 S9 hz9;have HS9:=Lib.hid S9;clear S9 hz9)
          clear x1 lx
          have c0:=((below_tr HB0.out HS9.out.bel).cell (p:=⟨ba,oa+q * 2,none⟩) hba).trans c0
          have lba:=below_lt (below_tr HB0.out HS9.out.bel) hba
          have hx:=heap_tr HS9.out.bel HXB.out
          have x1:=cell_heap (k:=1) hx rfl
          have lx:=heap_lt0 hx
          clear hx
          obtain ⟨b0,f0,⟨-,lg⟩,-⟩:=HS9.out.truth 1 rfl hQs
          have HOFF:=Lib.hid (HS9.out.truthOff 1 (l':=openL m (todo.eraseIdx p)) rfl hQs (fun j hj=>by
           rw [openL_iff,openL_iff,HOE.out]
           constructor
           ·exact fun h=>⟨h.1,fun e=>h.2 (by rw [e])⟩
           ·exact fun h=>⟨h.1,fun e=>h.2 (by omega)⟩))
          go_wp2_with fail
          go_roundw
          case rel=>exact ⟨todo.eraseIdx p,out++[q],tn - 1,_,_,by rw [List.length_eraseIdx_of_lt hpl,HTN.out],by rw [List.length_append];rfl,by congr 1;omega,by rw [natI_snoc,List.length_append];exact HOFF.out,HEV.out,erase_sorted HSO.out p,fun i hi=>HTA.out i (List.mem_of_mem_eraseIdx hi),by rw [List.length_append,List.length_singleton];omega⟩
          case measure=>simp [intOf];omega
         ·have hdk:decide ((k:Int)<(an:Int))=false:=by simp;omega
          have HEV:=Lib.hid (ev_at HRUN.out hp).2
          have hpl:=(ev_at HRUN.out hp).1
          rw [hpe] at HEV
          obtain ⟨ba,oa,QA,qn,qc,hAA,hba,c0,c1,r0⟩:=HM.out.asg.asE (k:=q) (by rw [HL2.out];exact hqa)
          subst hAA
          have htg:=tgt_in HDS.out (i:=q) (by rw [HL2.out];exact hqa)
          have HOE:=Lib.hid (fun s=>openB_erase HDS.out HSO.out (fun j hj=>by rw [HL2.out];exact HTA.out j hj) hpl s)
          rw [hpe] at HOE
          have HTG:Hid ((asK m q).target=(m.asgs[q]?.getD AsT.zero).target):=rfl
          unfold asK at htg
          rw [HTG.out] at HOE
          generalize (m.asgs[q]?.getD AsT.zero).target=tg at *
          obtain ⟨Q,rfl⟩:∃Q:Nat,tg=(Q:Int):=⟨tg.toNat,by omega⟩
          have hQs:Q<sn:=by have h1:=HL1.out;omega
          have hq0:decide ((q:Int)<0)=false:=decide_eq_false (by omega)
          have HS4:=Lib.hid (HS.out.below HBW.out)
          have HLO:Hid (out.length≤1099511627776):=by show _≤_;omega
          have q0:(0:Int)≤(Q:Int):=by omega
          have q1:(Q:Int)<(sn:Int):=by omega
          have r0':(0:Int)≤(q:Int):=by omega
          have r1':(q:Int)<(an:Int):=by omega
          have HPE:=Lib.hid hpe
          clear hp hpe c1 r0
          go_upto_region 22 with (at_builtin;refine wpList_sepPush rfl _ _ rfl _ (HS4.out.alloc _) 0 B out.length e (natI out) (q:Int) _ (0,0) rfl rfl rfl (heap_new _ _) HLO.out ?_;intro g9 cap w9 S9 hz9;have HS9:=Lib.hid S9;clear S9 hz9)
          clear x1 lx
          have c0:=((below_tr HB0.out HS9.out.bel).cell (p:=⟨ba,oa+q * 2,none⟩) hba).trans c0
          have lba:=below_lt (below_tr HB0.out HS9.out.bel) hba
          have hx:=heap_tr HS9.out.bel HXB.out
          have x1:=cell_heap (k:=1) hx rfl
          have lx:=heap_lt0 hx
          clear hx
          obtain ⟨b0,f0,⟨-,lg⟩,-⟩:=HS9.out.truth 1 rfl hQs
          have HOFF:=Lib.hid (HS9.out.truthOff 1 (l':=openL m (todo.eraseIdx p)) rfl hQs (fun j hj=>by
           rw [openL_iff,openL_iff,HOE.out]
           constructor
           ·exact fun h=>⟨h.1,fun e=>h.2 (by rw [e])⟩
           ·exact fun h=>⟨h.1,fun e=>h.2 (by omega)⟩))
          go_wp2_with fail
          go_roundw
          case rel=>exact ⟨todo.eraseIdx p,out++[q],tn - 1,_,_,by rw [List.length_eraseIdx_of_lt hpl,HTN.out],by rw [List.length_append];rfl,by congr 1;omega,by rw [natI_snoc,List.length_append];exact HOFF.out,HEV.out,erase_sorted HSO.out p,fun i hi=>HTA.out i (List.mem_of_mem_eraseIdx hi),by rw [List.length_append,List.length_singleton];omega⟩
          case measure=>simp [intOf];omega
  ·rw [tb_false hds]
   rintro _ w1 ⟨rfl,b1⟩
   have HB1:=Lib.hid (below_tr HB0.out (HSA.out.below b1).bel)
   clear b1 x0 x1 x2 x3 lx
   have HR:Hid (evalOrd m=none):=by show _=_;unfold evalOrd;rw [if_neg fun h=>hds h.2]
   go_wp2_with fail
   go_ret2
   exact .inr ⟨HR.out,⟨_,_,rfl⟩,HB1.out⟩
 ·have d0:decide (0<jn)=true:=decide_eq_true (by omega)
  have HR:Hid (evalOrd m=none):=by show _=_;unfold evalOrd;rw [if_neg fun h=>hj0 (by rw [←HL3.out];exact h.1)]
  clear hj0
  go_enter Tryz.func152,Tryz.ntmps152
  go_upto_region 1 with fail
  generalize w.alloc (.cells #[.slice SA sn sc,.slice AA an ac,.slice JA jn jc,.slice MA mn mc] 108)=W9 at *
  have hx:=heap_al (.cells #[] 3) HXB.out
  have x2:=cell_heap (k:=2) hx rfl
  have lx:=heap_lt0 hx
  clear hx
  go_upto_region 2 with fail
  go_wp2_with fail
  go_ret2
  exact .inr ⟨HR.out,⟨_,_,rfl⟩,below_new HB0.out _⟩
end Go.Proofs.YtlinbdkbbhpdpaaGreat

namespace Go.Proofs.YtlinbdkbbhpdpaaGreat
set_option maxRecDepth 100000
open Go.RowKit

set_option maxHeartbeats 4000000 in
theorem sflatOk_any (m:MdT) (SA AA JA MA:Option Addr) (sn sc an ac jn jc mn mc:Nat) (w:World) (h:MdRd w m SA AA JA MA sn sc an ac jn jc mn mc) :
  Calls Tryz.prog 100 #[.agg #[.slice SA sn sc,.slice AA an ac,.slice JA jn jc,.slice MA mn mc]] w fun e w'=>e = .returned (.bool (tb (FlatFit m)))∧Below w.heap.size w w':=by
 have HB0:=Lib.hid (below_new (Below.refl w.heap.size w) (.cells #[.slice SA sn sc,.slice AA an ac,.slice JA jn jc,.slice MA mn mc] 108))
 have HXB:=Lib.hid (heap_new w (.cells #[.slice SA sn sc,.slice AA an ac,.slice JA jn jc,.slice MA mn mc] 108))
 have HL1:=Lib.hid h.lens.1
 have HL2:=Lib.hid h.lens.2.1
 have HL4:=Lib.hid h.lens.2.2.2
 have HM:=Lib.hid h
 clear h
 go_enter Tryz.func100,Tryz.ntmps100
 go_upto_region 1 with fail
 generalize w.alloc (.cells #[.slice SA sn sc,.slice AA an ac,.slice JA jn jc,.slice MA mn mc] 108)=W9 at *
 have hx:=HXB.out
 have x0:=cell_heap (k:=0) hx rfl
 have x1:=cell_heap (k:=1) hx rfl
 have x2:=cell_heap (k:=2) hx rfl
 have x3:=cell_heap (k:=3) hx rfl
 have lx:=heap_lt0 hx
 clear hx
 go_wp2_with fail
 refine (sevalOrder_any m SA AA JA MA sn sc an ac jn jc mn mc _ (HM.out.below HB0.out)).mono ?_
 rintro _ w1 (⟨od,A0,n0,ho,rfl,S0⟩|⟨ho,⟨A0,n0,rfl⟩,b0⟩)
 ·have HORD:Hid (∃o,evalOrd m=some o):=⟨od,ho⟩
  have hds:=(evalOrd_fit ho).2
  have HDS:=Lib.hid hds
  have HB1':=Lib.hid (below_tr HB0.out S0.bel)
  have HX1:=Lib.hid (heap_tr S0.bel HXB.out)
  clear S0 ho x0 x1 x2 x3 lx
  have hcn:MdCnt m:=hds.one.cnt.2 0 (by simp)
  have hs30:sn≤30:=by have h1:=hcn.sg;rw [HL1.out] at h1;exact h1
  have ha30:an≤30:=by have h1:=hcn.asg;rw [HL2.out] at h1;exact h1
  have hm2:mn≤2:=by have h1:=hcn.mm;rw [HL4.out] at h1;exact h1
  clear hcn hds
  go_wp2_with fail
  go_loopw [5] (fun i wr=>∃k:Nat,k≤sn∧i = .int .i64 (k:Int)∧Below w1.heap.size w1 wr∧(∀s,s<k→(sgK m.sigs s).width≠0)) (fun i _=>sn - (intOf i).toNat)
  case atStart=>exact ⟨0,by omega,rfl,Below.refl _ _,fun s hs=>by omega⟩
  case round =>
   obtain ⟨k,hlek,rfl,hb,hall⟩:=hrel
   have HALL:=Lib.hid hall
   have HBW:=Lib.hid hb
   have HB:=Lib.hid (below_tr HB1'.out hb)
   clear hb hall
   have hx:=heap_tr HBW.out HX1.out
   have x0:=cell_heap (k:=0) hx rfl
   have lx:=heap_lt0 hx
   clear hx
   by_cases hlt:k<sn
   ·have hdk:decide ((k:Int)<(sn:Int))=true:=by simp;omega
    have i0:(0:Int)≤(k:Int):=by omega
    have i1:(k:Int)<(sn:Int):=by omega
    have hkl:k<m.sigs.length:=by rw [HL1.out];exact hlt
    obtain ⟨bs,os,hSA,hbs,c0,c1,c2⟩:=HM.out.sg.sgE (k:=k) hkl
    subst hSA
    have c1:=(HB.out.cell (p:=⟨bs,os+k * 3+1,none⟩) hbs).trans c1
    have lbs:=below_lt HB.out hbs
    have HNO:=Lib.hid (fun (h:¬(sgK m.sigs k).width≠0) (h2:FlatFit m)=>h (h2.wid k hkl))
    have HG:=Lib.hid (fun h:(sgK m.sigs k).width≠0=>all_succ HALL.out h)
    unfold sgK at HNO HG
    generalize (m.sigs[k]?.getD SgT.zero).width=wd at *
    clear hkl hbs c0 c2
    by_cases h0:wd=0
    ·have d0:(wd==0)=true:=by simp [h0]
     have HR:=Lib.hid (HNO.out fun h=>h h0)
     clear h0
     go_wp2_with fail
     go_ret
     exact ⟨ret_ff HR.out,HB.out⟩
    ·have d0:(wd==0)=false:=by simp [h0]
     have HG2:=Lib.hid (HG.out h0)
     clear h0
     go_wp2_with fail
     go_roundw
     case rel=>exact ⟨k+1,by omega,by go_num,HBW.out,HG2.out⟩
     case measure=>simp [intOf];omega
   ·have hkn:k=sn:=by omega
    have hdk:decide ((k:Int)<(sn:Int))=false:=by simp;omega
    clear hlt
    subst k
    have HF1:Hid (∀s,s<m.sigs.length→(sgK m.sigs s).width≠0):=fun i hi=>HALL.out i (by rw [HL1.out] at hi;exact hi)
    go_wp2_with fail
    clear x0 lx
    go_loopw [6] (fun i wr=>∃k:Nat,k≤an∧i = .int .i64 (k:Int)∧Below w1.heap.size w1 wr∧(∀i,i<k→¬hasPar (asK m i).ops)) (fun i _=>an - (intOf i).toNat)
    case atStart=>exact ⟨0,by omega,rfl,HBW.out,fun i hi=>by omega⟩
    case round =>
     obtain ⟨k,hlek,rfl,hb,hall⟩:=hrel
     have HALL:=Lib.hid hall
     have HBW:=Lib.hid hb
     have HB:=Lib.hid (below_tr HB1'.out hb)
     clear hb hall
     have hx:=heap_tr HBW.out HX1.out
     have x1:=cell_heap (k:=1) hx rfl
     have lx:=heap_lt0 hx
     clear hx
     by_cases hlt:k<an
     ·have hdk:decide ((k:Int)<(an:Int))=true:=by simp;omega
      have i0:(0:Int)≤(k:Int):=by omega
      have i1:(k:Int)<(an:Int):=by omega
      have hkl:k<m.asgs.length:=by rw [HL2.out];exact hlt
      obtain ⟨ba,oa,QA,qn,qc,hAA,hba,c0,c1,r0⟩:=HM.out.asg.asE (k:=k) hkl
      subst hAA
      have HC1:=Lib.hid c1
      have HR0:Hid (RdC w w.heap.size (celOp (asK m k).ops) (.slice QA qn qc)):=Lib.hid r0
      have hq15:qn≤15:=by have h1:=(as_fit HDS.out hkl).2.1;rw [HR0.out.opN] at h1;exact h1
      have HNO:=Lib.hid (fun (h:hasPar (asK m k).ops) (h2:FlatFit m)=>h2.par k hkl h)
      have HGK:=Lib.hid (fun h:¬hasPar (asK m k).ops=>all_succ HALL.out h)
      generalize (asK m k).ops=ops at *
      clear hkl c0 c1 r0
      go_wp2_with fail
      clear x1 lx
      go_loopw [7] (fun i wr=>∃j:Nat,j≤qn∧i = .int .i64 (j:Int)∧Below w1.heap.size w1 wr∧(∀i,i<j→(ops[i]?.getD OpT.zero).kind≠1)) (fun i _=>qn - (intOf i).toNat)
      case atStart=>exact ⟨0,by omega,rfl,HBW.out,fun i hi=>by omega⟩
      case round =>
       obtain ⟨j,hlej,rfl,hb,hall⟩:=hrel
       have HALL:=Lib.hid hall
       have HBW:=Lib.hid hb
       have HB:=Lib.hid (below_tr HB1'.out hb)
       clear hb hall
       have hx:=heap_tr HBW.out HX1.out
       have x1:=cell_heap (k:=1) hx rfl
       have lx:=heap_lt0 hx
       clear hx
       have c1:=(HB.out.cell (p:=⟨ba,oa+k * 2+1,none⟩) hba).trans HC1.out
       have lba:=below_lt HB.out hba
       by_cases hltj:j<qn
       ·have hdkj:decide ((j:Int)<(qn:Int))=true:=by simp;omega
        have i0j:(0:Int)≤(j:Int):=by omega
        have i1j:(j:Int)<(qn:Int):=by omega
        have hjl:j<ops.length:=by rw [HR0.out.opN];exact hltj
        obtain ⟨bo,oo,hQA,hbo,e0,e1,e2⟩:=HR0.out.opE (k:=j) hjl
        subst hQA
        have e0:=(HB.out.cell (p:=⟨bo,oo+j * 3,none⟩) hbo).trans e0
        have lbo:=below_lt HB.out hbo
        have HNJ:=Lib.hid (fun (h:(ops[j]?.getD OpT.zero).kind=1)=>HNO.out ⟨j,hjl,h⟩)
        have HGJ:=Lib.hid (fun h:(ops[j]?.getD OpT.zero).kind≠1=>all_succ HALL.out h)
        generalize (ops[j]?.getD OpT.zero).kind=kd at *
        clear hjl hbo e1 e2
        by_cases h1:kd=1
        ·have d1:(kd==1)=true:=by simp [h1]
         have HR:=Lib.hid (HNJ.out h1)
         clear h1
         go_wp2_with fail
         go_ret
         exact ⟨ret_ff HR.out,HB.out⟩
        ·have d1:(kd==1)=false:=by simp [h1]
         have HG2:=Lib.hid (HGJ.out h1)
         clear h1
         go_wp2_with fail
         go_roundw
         case rel=>exact ⟨j+1,by omega,by go_num,HBW.out,HG2.out⟩
         case measure=>simp [intOf];omega
       ·have hkn:j=qn:=by omega
        have hdkj:decide ((j:Int)<(qn:Int))=false:=by simp;omega
        clear hltj
        subst j
        have HG2:=Lib.hid (HGK.out fun ⟨j,h1,h2⟩=>HALL.out j (by rw [HR0.out.opN] at h1;exact h1) h2)
        go_wp2_with fail
        go_roundw
        case rel=>exact ⟨k+1,by omega,by go_num,HBW.out,HG2.out⟩
        case measure=>simp [intOf];omega
     ·have hkn:k=an:=by omega
      have hdk:decide ((k:Int)<(an:Int))=false:=by simp;omega
      clear hlt
      subst k
      have HF2:Hid (∀i,i<m.asgs.length→¬hasPar (asK m i).ops):=fun i hi=>HALL.out i (by rw [HL2.out] at hi;exact hi)
      clear x1 lx
      have hx:=heap_tr HBW.out HX1.out
      have x0:=cell_heap (k:=0) hx rfl
      have x1:=cell_heap (k:=1) hx rfl
      have x2:=cell_heap (k:=2) hx rfl
      have x3:=cell_heap (k:=3) hx rfl
      have lx:=heap_lt0 hx
      clear hx
      go_wp2_with fail
      refine (sportWidths_any m SA AA JA MA sn sc an ac jn jc mn mc 3 _ (HM.out.below HB.out)).mono ?_
      rintro _ p3 ⟨A3,c3,rfl,S3⟩
      have HB3:=Lib.hid (below_tr HB.out S3.bel)
      have HBW3:=Lib.hid (below_tr HBW.out S3.bel)
      have HI3:=Lib.hid (S3.ints 0 rfl)
      clear S3 x0 x1 x2 x3 lx
      go_wp2_with fail
      refine (sl06Sum_any A3 (pwOf m 3).length c3 (pwOf m 3) _ HI3.out (by have:=pwOf_len m 3;omega) (pwOf_in HDS.out)).mono ?_
      obtain ⟨s3,hs3⟩:∃s,sumI (pwOf m 3)=s:=⟨_,rfl⟩
      rw [hs3]
      rintro _ w' ⟨rfl,rfl⟩
      have HS3:=Lib.hid hs3
      clear hs3
      have hs3:=sumI_in (m:=4) (pwOf_in HDS.out (kind:=3))
      rw [HS3.out] at hs3
      have hp3:=pwOf_len m 3
      have hs3b:0≤s3∧s3≤120:=by omega
      clear hs3 hp3
      go_wp2_with fail
      go_loopw [8,9] (fun v i wr=>∃k:Nat,k≤mn∧i = .int .i64 (k:Int)∧v = .int .i64 (s3+memW m k)∧Below w1.heap.size w1 wr∧(∀i,i<k→MmFlat m (mmK m i))) (fun _ i _=>mn - (intOf i).toNat)
      case atStart=>exact ⟨0,by omega,rfl,by rw [memW_zero,Int.add_zero],HBW3.out,fun i hi=>by omega⟩
      case round =>
       obtain ⟨k,hk,rfl,rfl,hb,hall⟩:=hrel
       have HALL:=Lib.hid hall
       have HBW:=Lib.hid hb
       have HB:=Lib.hid (below_tr HB1'.out hb)
       clear hb hall
       have hx:=heap_tr HBW.out HX1.out
       have x3:=cell_heap (k:=3) hx rfl
       have lx:=heap_lt0 hx
       clear hx
       by_cases hlt:k<mn
       ·have hdk:decide ((k:Int)<(mn:Int))=true:=by simp;omega
        have i0:(0:Int)≤(k:Int):=by omega
        have i1:(k:Int)<(mn:Int):=by omega
        have hkl:k<m.mems.length:=by rw [HL4.out];exact hlt
        obtain ⟨bm,om,hMA,hbm,c0,c1,c2,c3⟩:=HM.out.mm.mmE (k:=k) hkl
        subst hMA
        rw [←HB.out.cell (p:=⟨bm,om+k * 4,none⟩) hbm] at c0
        rw [←HB.out.cell (p:=⟨bm,om+k * 4+1,none⟩) hbm] at c1
        rw [←HB.out.cell (p:=⟨bm,om+k * 4+2,none⟩) hbm] at c2
        rw [←HB.out.cell (p:=⟨bm,om+k * 4+3,none⟩) hbm] at c3
        have lbm:=below_lt HB.out hbm
        have hmf:=HDS.out.one.mem k hkl
        have HNO:=Lib.hid (fun (h:¬MmFlat m (mmK m k)) (h2:FlatFit m)=>h (h2.mem k hkl))
        have HG:=Lib.hid (fun h:MmFlat m (mmK m k)=>all_succ HALL.out h)
        have HMS:=Lib.hid (memW_succ hkl)
        have hmw:=memW_in HDS.out (Nat.le_of_lt hkl)
        have HMF:Hid (MmFlat m (mmK m k)↔((sgI m (mmK m k).addr).width=2∧(sgI m (mmK m k).write).width=1)∧(sgI m (mmK m k).data).width=(sgI m (mmK m k).out).width):=Iff.rfl
        rw [show (m.mems[k]?.getD MmT.zero)=mmK m k from rfl] at c0 c1 c2 c3
        rw [show (mdK [m] 0).mems[k]?.getD MmT.zero=mmK m k from rfl] at hmf
        generalize memW m k=mw at *
        generalize mmK m k=q at *
        obtain ⟨ma,md,mwr,mo⟩:=q
        simp only at c0 c1 c2 c3 HMS HMF
        obtain ⟨hA,hD,hW,hO,-⟩:=hmf
        simp only at hA hD hW hO
        obtain ⟨A,rfl⟩:∃A:Nat,ma=(A:Int):=⟨ma.toNat,by have:=hA.1;omega⟩
        obtain ⟨D,rfl⟩:∃A:Nat,md=(A:Int):=⟨md.toNat,by have:=hD.1;omega⟩
        obtain ⟨W,rfl⟩:∃A:Nat,mwr=(A:Int):=⟨mwr.toNat,by have:=hW.1;omega⟩
        obtain ⟨O,rfl⟩:∃A:Nat,mo=(A:Int):=⟨mo.toNat,by have:=hO.1;omega⟩
        have hA2:=hA.2
        have hD2:=hD.2
        have hW2:=hW.2
        have hO2:=hO.2
        rw [show (mdK [m] 0).sigs.length=m.sigs.length from rfl,HL1.out] at hA2 hD2 hW2 hO2
        have hW4:=(HDS.out.one.sig O (by show O<m.sigs.length;rw [HL1.out];omega)).1.2
        rw [show (sgK (mdK [m] 0).sigs O)=sgI m (O:Int) from rfl] at hW4
        have HSG:=fun (X:Nat) (hX:(X:Int)<(sn:Int))=>HM.out.sg.sgE (k:=X) (by rw [HL1.out];omega)
        obtain ⟨bs,os,hSA,hbs,-,sA,-⟩:=HSG A hA2
        obtain ⟨bs2,os2,hS2,-,-,sD,-⟩:=HSG D hD2
        obtain ⟨bs3,os3,hS3,-,-,sW,-⟩:=HSG W hW2
        obtain ⟨bs4,os4,hS4,-,-,sO,-⟩:=HSG O hO2
        clear HSG
        subst hSA
        injection hS2 with hS2
        injection hS2 with h1 h2
        subst h1 h2
        injection hS3 with hS3
        injection hS3 with h1 h2
        subst h1 h2
        injection hS4 with hS4
        injection hS4 with h1 h2
        subst h1 h2
        rw [show (m.sigs[A]?.getD SgT.zero)=sgI m (A:Int) from rfl] at sA
        rw [show (m.sigs[D]?.getD SgT.zero)=sgI m (D:Int) from rfl] at sD
        rw [show (m.sigs[W]?.getD SgT.zero)=sgI m (W:Int) from rfl] at sW
        rw [show (m.sigs[O]?.getD SgT.zero)=sgI m (O:Int) from rfl] at sO
        generalize (sgI m (A:Int)).width=wA at *
        generalize (sgI m (D:Int)).width=wD at *
        generalize (sgI m (W:Int)).width=wW at *
        generalize (sgI m (O:Int)).width=wO at *
        have n0:(0:Int)≤(A:Int):=by omega
        have n1:(0:Int)≤(D:Int):=by omega
        have n2:(0:Int)≤(W:Int):=by omega
        have n3:(0:Int)≤(O:Int):=by omega
        clear hkl hbm hA hD hW hO
        have HBV:=Lib.hid (below_new HBW.out (.cells #[.int .i64 (A:Int),.int .i64 (D:Int),.int .i64 (W:Int),.int .i64 (O:Int)] 200))
        have HB1:=Lib.hid (below_new HB.out (.cells #[.int .i64 (A:Int),.int .i64 (D:Int),.int .i64 (W:Int),.int .i64 (O:Int)] 200))
        have hy:=heap_new wr (.cells #[.int .i64 (A:Int),.int .i64 (D:Int),.int .i64 (W:Int),.int .i64 (O:Int)] 200)
        have HY:=Lib.hid hy
        have y0:=cell_heap (k:=0) hy rfl
        have y1:=cell_heap (k:=1) hy rfl
        have y2:=cell_heap (k:=2) hy rfl
        have y3:=cell_heap (k:=3) hy rfl
        have ly:=heap_lt0 hy
        clear hy
        go_upto_region 22 with fail
        generalize wr.alloc (.cells #[.int .i64 (A:Int),.int .i64 (D:Int),.int .i64 (W:Int),.int .i64 (O:Int)] 200)=W5 at *
        clear x3 lx
        have hx:=heap_tr HBV.out HX1.out
        have x0:=cell_heap (k:=0) hx rfl
        have lx:=heap_lt0 hx
        clear hx
        have sA:=(HB1.out.cell (p:=⟨bs,os+A * 3+1,none⟩) hbs).trans sA
        have sD:=(HB1.out.cell (p:=⟨bs,os+D * 3+1,none⟩) hbs).trans sD
        have sW:=(HB1.out.cell (p:=⟨bs,os+W * 3+1,none⟩) hbs).trans sW
        have sO:=(HB1.out.cell (p:=⟨bs,os+O * 3+1,none⟩) hbs).trans sO
        have lbs:=below_lt HB1.out hbs
        by_cases hA:wA=2
        ·have dA:(wA != 2)=false:=by simp [hA]
         by_cases hW:wW=1
         ·have dW:(wW != 1)=false:=by simp [hW]
          by_cases hE:wD=wO
          ·have dE:(wD != wO)=false:=by simp [hE]
           have HG2:=Lib.hid (HG.out (HMF.out.2 ⟨⟨hA,hW⟩,hE⟩))
           clear hA hW hE
           have hsub:=sub_ne W5
           have hsc:=sub_cell W5
           refine wp_region_below W5 (by kernel_rfl) (by kernel_rfl) (Below.refl _ _) ?_
           repeat (go_big_quiet_step (fail))
           refine wpQuiet_nil ?_
           rintro _ ⟨⟨w5,hD⟩,rfl⟩
           clear hsub hsc
           have HB2:=Lib.hid (below_tr HBV.out hD)
           have HX5:=Lib.hid (heap_tr hD HY.out)
           have sO:=(hD.cell (p:=⟨bs,os+O * 3+1,none⟩) lbs).trans sO
           have lbs:=below_lt hD lbs
           clear hD y0 y1 y2 y3 ly x0 lx sA sD sW c0 c1 c2 c3 lbm
           have hy:=HX5.out
           have y3:=cell_heap (k:=3) hy rfl
           have ly:=heap_lt0 hy
           clear hy
           have hx:=heap_tr HB2.out HX1.out
           have x0:=cell_heap (k:=0) hx rfl
           have lx:=heap_lt0 hx
           clear hx
           go_wp2_with fail
           go_roundw
           case rel=>exact ⟨k+1,by omega,by go_num,by rw [HMS.out];congr 1;omega,HB2.out,HG2.out⟩
           case measure=>simp [intOf];omega
          ·have dE:(wD != wO)=true:=by simp [hE]
           have HR:=Lib.hid (HNO.out fun h=>hE (HMF.out.1 h).2)
           clear hA hW hE
           have hsub:=sub_ne W5
           have hsc:=sub_cell W5
           refine wp_region_below W5 (by kernel_rfl) (by kernel_rfl) (Below.refl _ _) ?_
           repeat (go_big_quiet_step (fail))
           refine wpQuiet_nil ?_
           rintro _ ⟨⟨w5,hD⟩,rfl⟩
           clear hsub hsc
           have HB2:=Lib.hid (below_tr HB1.out hD)
           clear hD
           go_wp2_with fail
           go_ret
           exact ⟨ret_ff HR.out,HB2.out⟩
         ·have dW:(wW != 1)=true:=by simp [hW]
          have HR:=Lib.hid (HNO.out fun h=>hW (HMF.out.1 h).1.2)
          clear hA hW
          have hsub:=sub_ne W5
          have hsc:=sub_cell W5
          refine wp_region_below W5 (by kernel_rfl) (by kernel_rfl) (Below.refl _ _) ?_
          repeat (go_big_quiet_step (fail))
          refine wpQuiet_nil ?_
          rintro _ ⟨⟨w5,hD⟩,rfl⟩
          clear hsub hsc
          have HB2:=Lib.hid (below_tr HB1.out hD)
          clear hD
          go_wp2_with fail
          go_ret
          exact ⟨ret_ff HR.out,HB2.out⟩
        ·have dA:(wA != 2)=true:=by simp [hA]
         have HR:=Lib.hid (HNO.out fun h=>hA (HMF.out.1 h).1.1)
         clear hA
         have hsub:=sub_ne W5
         have hsc:=sub_cell W5
         refine wp_region_below W5 (by kernel_rfl) (by kernel_rfl) (Below.refl _ _) ?_
         repeat (go_big_quiet_step (fail))
         refine wpQuiet_nil ?_
         rintro _ ⟨⟨w5,hD⟩,rfl⟩
         clear hsub hsc
         have HB2:=Lib.hid (below_tr HB1.out hD)
         clear hD
         go_wp2_with fail
         go_ret
         exact ⟨ret_ff HR.out,HB2.out⟩
       ·have hkn:k=mn:=by omega
        have hdk:decide ((k:Int)<(mn:Int))=false:=by simp;omega
        clear hlt
        subst k
        have HF3:Hid (∀i,i<m.mems.length→MmFlat m (mmK m i)):=fun i hi=>HALL.out i (by rw [HL4.out] at hi;exact hi)
        have HF4:Hid (m.mems.length=mn):=HL4.out
        generalize hmw:memW m mn=mw at *
        have HMW:=Lib.hid hmw
        clear hmw
        clear x3 lx
        have hx:=heap_tr HBW.out HX1.out
        have x0:=cell_heap (k:=0) hx rfl
        have x1:=cell_heap (k:=1) hx rfl
        have x2:=cell_heap (k:=2) hx rfl
        have x3:=cell_heap (k:=3) hx rfl
        have lx:=heap_lt0 hx
        clear hx
        go_wp2_with fail
        refine (sportWidths_any m SA AA JA MA sn sc an ac jn jc mn mc 0 _ (HM.out.below HB.out)).mono ?_
        rintro _ p4 ⟨A4,c4,rfl,S4⟩
        have HB4:=Lib.hid (below_tr HB.out S4.bel)
        have HBW4:=Lib.hid (below_tr HBW.out S4.bel)
        have HI4:=Lib.hid (S4.ints 0 rfl)
        clear S4 x0 x1 x2 x3 lx
        go_wp2_with fail
        refine (sl06Sum_any A4 (pwOf m 0).length c4 (pwOf m 0) _ HI4.out (by have:=pwOf_len m 0;omega) (pwOf_in HDS.out)).mono ?_
        obtain ⟨s4,hs4⟩:∃s,sumI (pwOf m 0)=s:=⟨_,rfl⟩
        rw [hs4]
        rintro _ w' ⟨rfl,rfl⟩
        have HS4:=Lib.hid hs4
        clear hs4
        by_cases hb0:s4≤8
        ·have db0:decide (s4≤8)=true:=decide_eq_true hb0
         have hx:=heap_tr HBW4.out HX1.out
         have x0:=cell_heap (k:=0) hx rfl
         have x1:=cell_heap (k:=1) hx rfl
         have x2:=cell_heap (k:=2) hx rfl
         have x3:=cell_heap (k:=3) hx rfl
         have lx:=heap_lt0 hx
         clear hx
         go_wp2_with fail
         refine (sportWidths_any m SA AA JA MA sn sc an ac jn jc mn mc 1 _ (HM.out.below HB4.out)).mono ?_
         rintro _ p5 ⟨A5,c5,rfl,S5⟩
         have HB5:=Lib.hid (below_tr HB4.out S5.bel)
         have HBW5:=Lib.hid (below_tr HBW4.out S5.bel)
         have HI5:=Lib.hid (S5.ints 0 rfl)
         clear S5 x0 x1 x2 x3 lx
         go_wp2_with fail
         refine (sl06Sum_any A5 (pwOf m 1).length c5 (pwOf m 1) _ HI5.out (by have:=pwOf_len m 1;omega) (pwOf_in HDS.out)).mono ?_
         obtain ⟨s5,hs5⟩:∃s,sumI (pwOf m 1)=s:=⟨_,rfl⟩
         rw [hs5]
         rintro _ w' ⟨rfl,rfl⟩
         have HS5:=Lib.hid hs5
         clear hs5
         by_cases hb1:s5≤8
         ·have db1:decide (s5≤8)=true:=decide_eq_true hb1
          by_cases hb2:s3+mw≤12
          ·have db2:decide (s3+mw≤12)=true:=decide_eq_true hb2
           have HR:Hid (FlatFit m):=⟨HORD.out,HF1.out,HF2.out,HF3.out,by rw [HS4.out];exact hb0,by rw [HS5.out];exact hb1,by rw [HF4.out,HMW.out,HS3.out];exact hb2⟩
           clear hb0 hb1 hb2
           go_wp2_with fail
           go_ret
           exact ⟨ret_tt HR.out,HB5.out⟩
          ·have db2:decide (s3+mw≤12)=false:=decide_eq_false hb2
           have HR:Hid (¬FlatFit m):=fun h=>hb2 (by have h1:=h.bits;rw [HF4.out,HMW.out,HS3.out] at h1;exact h1)
           clear hb0 hb1 hb2
           go_wp2_with fail
           go_ret
           exact ⟨ret_ff HR.out,HB5.out⟩
         ·have db1:decide (s5≤8)=false:=decide_eq_false hb1
          have HR:Hid (¬FlatFit m):=fun h=>hb1 (by have h1:=h.outs;rw [HS5.out] at h1;exact h1)
          clear hb0 hb1
          go_wp2_with fail
          go_ret
          exact ⟨ret_ff HR.out,HB5.out⟩
        ·have db0:decide (s4≤8)=false:=decide_eq_false hb0
         have HR:Hid (¬FlatFit m):=fun h=>hb0 (by have h1:=h.ins;rw [HS4.out] at h1;exact h1)
         clear hb0
         go_wp2_with fail
         go_ret
         exact ⟨ret_ff HR.out,HB4.out⟩
 ·have HR:Hid (¬FlatFit m):=fun h=>by obtain ⟨o,h1⟩:=h.ord;rw [ho] at h1;cases h1
  have HB1:=Lib.hid (below_tr HB0.out b0)
  clear b0 ho x0 x1 x2 x3 lx
  go_wp2_with fail
  go_ret
  exact ⟨ret_ff HR.out,HB1.out⟩
end Go.Proofs.YtlinbdkbbhpdpaaGreat
