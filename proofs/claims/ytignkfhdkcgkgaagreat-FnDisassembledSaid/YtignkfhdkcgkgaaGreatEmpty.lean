/- Reading numbers out of words of bits: the program's reader and the reference's. The empty configuration of a tile: four new blocks. -/
import Derived.Deep.DeepCutAuto
import Derived.Test.YtignkfhdkcgkgaaGreatData
namespace Go.Proofs.YtignkfhdkcgkgaaGreat
set_option maxRecDepth 100000
open Go.RowKit Cw

def In16 (ws:List Int):Prop:=∀j,j<ws.length→0≤ws[j]?.getD 0∧ws[j]?.getD 0≤65535
/-- A reader at block g, over the words ws, at bit p. -/
def Rdr (w:World) (g:Nat) (A:Option Addr) (n c:Nat) (p:Nat):Prop:=w.heap[g]?=some (.cells #[.slice A n c,.int .i64 p] 215 (0,0))

set_option maxHeartbeats 1000000 in
theorem get_any (g:Nat) (A:Option Addr) (n c:Nat) (ws:List Int) (p b:Nat) (w:World) (h:Rdr w g A n c p) (hA:Ints w A n ws) (hne:∀a,A=some a→a.block≠g) (hin:In16 ws) (hp:p+b≤16 * n) (hb:b≤16) (hn:n≤1000) :
  Calls Tryz.prog 225 #[.pointer (some ⟨g,0,none⟩),.int .i64 b] w fun e w'=>e = .returned (.int .i64 (getW ws p b))∧Rdr w' g A n c (p+b)∧w.grownBy w' (some g):=by
 have HIN:=Lib.hid hin
 have HI:=Lib.hid hA
 have HH:=Lib.hid h
 have HNE:=Lib.hid hne
 clear hin hA h hne
 go_enter Tryz.func225,Tryz.ntmps225
 go_wp2_with fail
 go_loopw [5,6] (fun v i wr=>∃k:Nat,k≤b∧i = .int .i64 k∧v = .int .i64 ((getTo ws p k:Nat):Int)∧Rdr wr g A n c (p+k)∧w.grownBy wr (some g)) (fun _ i _=>b - (intOf i).toNat)
 case atStart=>exact ⟨0,Nat.zero_le _,rfl,rfl,HH.out,grownBy_refl _ _⟩
 case round =>
  obtain ⟨k,hk,rfl,rfl,hr,hg⟩:=hrel
  have HR:=Lib.hid hr
  have HG:=Lib.hid hg
  have c0:wr.cell? ⟨g,0,none⟩=some (.slice A n c):=by unfold Rdr at hr;simp [World.cell?,hr]
  have c1:wr.cell? ⟨g,1,none⟩=some (.int .i64 ((p+k:Nat):Int)):=by unfold Rdr at hr;simp [World.cell?,hr]
  have f1:wr.frozen? ⟨g,1,none⟩=false:=by unfold Rdr at hr;simp [World.frozen?,hr]
  by_cases hlt:k<b
  ·have hq:(p+k) / 16<n:=by omega
   obtain ⟨bb,o,rfl,hbb,hc⟩:=HI.out.2 (by omega)
   have hck:=hc ((p+k) / 16) hq
   have hbg:bb≠g:=HNE.out _ rfl
   rw [←World.cell?_of_block (a:=⟨bb,o+(p+k) / 16,none⟩) (hg.block bb hbb (by simpa using hbg))] at hck
   have hx:=HIN.out ((p+k) / 16) (by rw [HI.out.1];exact hq)
   have HW:=Lib.hid (getTo.eq_2 ws p k)
   have hlt2:=getTo_lt ws p k
   have hbw:bitW ws (p+k)=bit (ws[(p+k) / 16]?.getD 0).toNat ((p+k) % 16):=rfl
   clear hc hr hg
   generalize getTo ws p k=acc at *
   generalize ws[(p+k) / 16]?.getD 0=x at *
   obtain ⟨x,rfl⟩:=Int.eq_ofNat_of_zero_le hx.1
   have HB:=Lib.hid hbw
   have HL:=Lib.hid hlt2
   clear hbw hlt2
   generalize ha:p+k=a at *
   have HA:=Lib.hid ha
   have e1:(a:Int).tmod 16=((a % 16:Nat):Int):=by rw [Int.tmod_eq_emod_of_nonneg (by omega)];omega
   have e2:IntKind.i64.wrap ((a:Int).tdiv 16)=((a / 16:Nat):Int):=by rw [IntWalk.i64_quo _ _ ⟨by omega,by omega,by omega⟩];omega
   have q0:(0:Int)≤((a / 16:Nat):Int):=by omega
   have q1:((a / 16:Nat):Int)<(n:Int):=by omega
   have r0:(0:Int)≤((a % 16:Nat):Int):=by omega
   have r1:((a % 16:Nat):Int)<16:=by omega
   clear ha
   go_wp2_with fail
   go_quiet (fail)
   go_wp2_with fail
   go_roundw
   case rel =>
    refine ⟨k+1,by omega,by go_num,?_,?_,grownBy_store (grownBy_drewN HG.out _) _ _⟩
    ·rw [shr_bit x (a % 16) (by omega),or_bit HL.out (bit_le _ _) (by omega),HW.out,HB.out,Int.toNat_natCast]
    ·unfold Rdr
     have h2:=heap_set (w:=wr.drewN nq) HR.out 1 (.int .i64 ((a:Int)+1))
     rw [show p+(k+1)=a+1 by have:=HA.out;omega]
     exact h2.trans (by simp)
   case measure=>simp [intOf];omega
  ·have hkb:k=b:=by omega
   subst hkb
   go_wp2_with fail
   go_ret
   exact ⟨rfl,HR.out,HG.out⟩
set_option maxHeartbeats 1000000 in
theorem sget_any (A:Option Addr) (n c:Nat) (ws:List Int) (p b:Nat) (w:World) (hA:Ints w A n ws) (hin:In16 ws) (hp:p+b≤16 * n) (hb:b≤16) (hn:n≤1000) :
  Calls Tryz.prog 182 #[.slice A n c,.int .i64 p,.int .i64 b] w fun e w'=>e = .returned (.tuple #[.int .i64 (getW ws p b),.int .i64 ((p+b:Nat):Int)])∧w=w':=by
 have HIN:=Lib.hid hin
 have HI:=Lib.hid hA
 clear hin hA
 go_enter Tryz.func182,Tryz.ntmps182
 go_wp2_with fail
 go_loop [8,9] (fun v i=>∃k:Nat,k≤b∧i = .int .i64 k∧v = .int .i64 ((getTo ws p k:Nat):Int)) (fun _ i=>b - (intOf i).toNat)
 case atStart=>exact ⟨0,Nat.zero_le _,rfl,rfl⟩
 case round =>
  obtain ⟨k,hk,rfl,rfl⟩:=hrel
  by_cases hlt:k<b
  ·have hq:(p+k) / 16<n:=by omega
   obtain ⟨bb,o,rfl,hbb,hc⟩:=HI.out.2 (by omega)
   have hck:=hc ((p+k) / 16) hq
   have hx:=HIN.out ((p+k) / 16) (by rw [HI.out.1];exact hq)
   have HW:=Lib.hid (getTo.eq_2 ws p k)
   have hlt2:=getTo_lt ws p k
   have hbw:bitW ws (p+k)=bit (ws[(p+k) / 16]?.getD 0).toNat ((p+k) % 16):=rfl
   clear hc
   generalize getTo ws p k=acc at *
   generalize ws[(p+k) / 16]?.getD 0=x at *
   obtain ⟨x,rfl⟩:=Int.eq_ofNat_of_zero_le hx.1
   have HB:=Lib.hid hbw
   have HL:=Lib.hid hlt2
   clear hbw hlt2
   have q0:(0:Int)≤((p:Int)+k) / 16:=by omega
   have q1:((p:Int)+k) / 16<(n:Int):=by omega
   have r0:(0:Int)≤((p:Int)+k) % 16:=by omega
   have r1:((p:Int)+k) % 16<16:=by omega
   go_wp2_with fail
   go_round
   case rel=>exact ⟨k+1,by omega,by go_num,by rw [shr_bit x ((p+k) % 16) (by omega),add_bit HL.out (bit_le _ _) (by omega),HW.out,HB.out,Int.toNat_natCast]⟩
   case measure=>simp [intOf];omega
  ·have hkb:k=b:=by omega
   subst hkb
   go_wp2_with fail
   go_ret2
   exact ⟨rfl,rfl⟩
end Go.Proofs.YtignkfhdkcgkgaaGreat

namespace Go.Proofs.YtignkfhdkcgkgaaGreat
set_option maxRecDepth 100000
open Go.RowKit

def zles (g0 g1:Nat):Array Value:=#[.slice (some ⟨g0,0,none⟩) 4 4,.int .i64 0,.int .i64 0,.int .i64 0,.slice (some ⟨g1,0,none⟩) 4 4,.int .i64 0,.int .i64 0,.int .i64 0]
def EmptyAt (lo M:Nat) (w:World) (v:Value):Prop:=∃gm gl g0 g1:Nat,v = .agg #[.slice (some ⟨gm,0,none⟩) M M,.slice (some ⟨gl,0,none⟩) 2 2,.int .i64 0,.int .i64 0] ∧
 lo≤gm∧lo≤gl∧lo≤g0∧lo≤g1∧gm≠gl∧gm≠g0∧gm≠g1∧gl≠g0∧gl≠g1∧g0≠g1 ∧
 w.heap[gm]?=some (.cells (arr (List.replicate M 0)) 3 (0,0))∧w.heap[gl]?=some (.cells (zles g0 g1) 107 (0,0)) ∧
 w.heap[g0]?=some (.cells (arr (List.replicate 4 0)) 3 (0,0))∧w.heap[g1]?=some (.cells (arr (List.replicate 4 0)) 3 (0,0))
def EmptyPost (w:World) (M:Nat) (e:Ending) (w':World):Prop:=∃v,e = .returned v∧EmptyAt w.heap.size M w' v∧Below w.heap.size w w'

theorem muxCount_n (d:Dev) (w:World) (hd:devOk d=true) :
  Calls Tryz.prog 174 #[.agg #[.int .i64 d.W,.int .i64 d.H,.int .i64 d.T,.int .i64 d.R]] w fun e w'=>e = .returned (.int .i64 (muxN d))∧Below w.heap.size w w':=by
 have hb:=devOk_bd hd
 rw [(muxN_bd hd).1]
 exact muxCount_any d w (by omega) (by omega)
theorem smuxCount_n (d:Dev) (w:World) (hd:devOk d=true) :
  Calls Tryz.prog 207 #[.agg #[.int .i64 d.W,.int .i64 d.H,.int .i64 d.T,.int .i64 d.R]] w fun e w'=>e = .returned (.int .i64 (muxN d))∧Below w.heap.size w w':=by
 rw [(muxN_bd hd).1]
 exact smuxCount_any d w hd
theorem heap_tr {w w':World} (h:Below w.heap.size w w') {g:Nat} {o:Obj} (hg:w.heap[g]?=some o):w'.heap[g]?=some o:=(h.block g (heap_lt0 hg)).trans hg
theorem heap_al {w:World} {g:Nat} {o:Obj} (o':Obj) (hg:w.heap[g]?=some o):(w.alloc o').heap[g]?=some o:=(Below.heap_alloc w o' g (heap_lt0 hg)).trans hg
theorem heap_st {w:World} {g:Nat} {o:Obj} {p:Addr} (v:Value) (hg:w.heap[g]?=some o) (hne:g≠p.block):(w.setCell p v).heap[g]?=some o:=(Below.heap_setCell w p v g hne).trans hg

theorem heap_newAt {w:World} {g:Nat} {o:Obj} (h:w.heap.size=g):(w.alloc o).heap[g]?=some o:=by subst h;exact heap_new w o
theorem heap_dr {w:World} {g:Nat} {o:Obj} (h:w.heap[g]?=some o):w.drew.heap[g]?=some o:=h
theorem cell_heap {w:World} {g k:Nat} {cs:Array Value} {t:TypeId} {v:Value} (h:w.heap[g]?=some (.cells cs t (0,0))) (hv:cs[k]?=some v):w.cell? ⟨g,k,none⟩=some v:=by unfold World.cell?;rw [h];exact hv
theorem apart4 {a b:Nat} (h:a+1+1≤b):a+1<b∧a<b∧a<b+1∧a<b+1+1∧a<b+1+1+1∧a<b+1+1+1+1:=by omega
theorem tile_nodes {w w':World} {M:Nat} {gm gl g0 g1:Nat} (hb:Below w.heap.size w w') (h:w.heap.size≤gm∧w.heap.size≤gl∧w.heap.size≤g0∧w.heap.size≤g1) (hn:gm≠gl∧gm≠g0∧gm≠g1∧gl≠g0∧gl≠g1∧g0≠g1)
  (h1:w'.heap[gm]?=some (.cells (arr (List.replicate M 0)) 3 (0,0))) (h2:w'.heap[gl]?=some (.cells (zles g0 g1) 107 (0,0))) (h3:w'.heap[g0]?=some (.cells (arr [0,0,0,0]) 3 (0,0))) (h4:w'.heap[g1]?=some (.cells (arr [0,0,0,0]) 3 (0,0))) :
  EmptyPost w M (.returned (.agg #[.slice (some ⟨gm,0,none⟩) M M,.slice (some ⟨gl,0,none⟩) 2 2,.int .i64 0,.int .i64 0])) w' :=
 ⟨_,rfl,⟨gm,gl,g0,g1,rfl,h.1,h.2.1,h.2.2.1,h.2.2.2,hn.1,hn.2.1,hn.2.2.1,hn.2.2.2.1,hn.2.2.2.2.1,hn.2.2.2.2.2,h1,h2,h3,h4⟩,hb⟩


theorem keep_of {w w1 w2:World} {d:Dev} (h:Below w.heap.size w w1∧w1.cell? ⟨w.heap.size,0,none⟩=some (.int .i64 d.W)∧w1.cell? ⟨w.heap.size,1,none⟩=some (.int .i64 d.H)∧w1.cell? ⟨w.heap.size,2,none⟩=some (.int .i64 d.T)∧w1.cell? ⟨w.heap.size,3,none⟩=some (.int .i64 d.R)∧w1.cell? ⟨w.heap.size+1,0,none⟩=some (.slice none 0 0)∧w1.cell? ⟨w.heap.size+1,1,none⟩=some (.slice none 0 0)∧w1.cell? ⟨w.heap.size+1,2,none⟩=some (.int .i64 0)∧w1.cell? ⟨w.heap.size+1,3,none⟩=some (.int .i64 0)∧w1.frozen? ⟨w.heap.size+1,0,none⟩=false∧w1.frozen? ⟨w.heap.size+1,1,none⟩=false∧w1.frozen? ⟨w.heap.size+1,2,none⟩=false∧w1.frozen? ⟨w.heap.size+1,3,none⟩=false∧w.heap.size+1<w1.heap.size) (hk:∀k,k<w.heap.size+2→w2.heap[k]?=w1.heap[k]?) (hb:Below w.heap.size w w2) (hs:w1.heap.size≤w2.heap.size):Below w.heap.size w w2∧w2.cell? ⟨w.heap.size,0,none⟩=some (.int .i64 d.W)∧w2.cell? ⟨w.heap.size,1,none⟩=some (.int .i64 d.H)∧w2.cell? ⟨w.heap.size,2,none⟩=some (.int .i64 d.T)∧w2.cell? ⟨w.heap.size,3,none⟩=some (.int .i64 d.R)∧w2.cell? ⟨w.heap.size+1,0,none⟩=some (.slice none 0 0)∧w2.cell? ⟨w.heap.size+1,1,none⟩=some (.slice none 0 0)∧w2.cell? ⟨w.heap.size+1,2,none⟩=some (.int .i64 0)∧w2.cell? ⟨w.heap.size+1,3,none⟩=some (.int .i64 0)∧w2.frozen? ⟨w.heap.size+1,0,none⟩=false∧w2.frozen? ⟨w.heap.size+1,1,none⟩=false∧w2.frozen? ⟨w.heap.size+1,2,none⟩=false∧w2.frozen? ⟨w.heap.size+1,3,none⟩=false∧w.heap.size+1<w2.heap.size:=by
 obtain ⟨_,h0,h1,h2,h3,e0,e1,e2,e3,f0,f1,f2,f3,hl⟩:=h
 have c:=fun (k o:Nat) (hk':k<w.heap.size+2)=>World.cell?_of_block (a:=⟨k,o,none⟩) (hk k hk')
 have f:=fun (k o:Nat) (hk':k<w.heap.size+2)=>World.frozen?_of_block (a:=⟨k,o,none⟩) (hk k hk')
 exact ⟨hb,(c _ _ (by omega)).trans h0,(c _ _ (by omega)).trans h1,(c _ _ (by omega)).trans h2,(c _ _ (by omega)).trans h3,(c _ _ (by omega)).trans e0,(c _ _ (by omega)).trans e1,(c _ _ (by omega)).trans e2,(c _ _ (by omega)).trans e3,(f _ _ (by omega)).trans f0,(f _ _ (by omega)).trans f1,(f _ _ (by omega)).trans f2,(f _ _ (by omega)).trans f3,by omega⟩
theorem keep_al {w w1:World} {d:Dev} (o:Obj) (h:Below w.heap.size w w1∧w1.cell? ⟨w.heap.size,0,none⟩=some (.int .i64 d.W)∧w1.cell? ⟨w.heap.size,1,none⟩=some (.int .i64 d.H)∧w1.cell? ⟨w.heap.size,2,none⟩=some (.int .i64 d.T)∧w1.cell? ⟨w.heap.size,3,none⟩=some (.int .i64 d.R)∧w1.cell? ⟨w.heap.size+1,0,none⟩=some (.slice none 0 0)∧w1.cell? ⟨w.heap.size+1,1,none⟩=some (.slice none 0 0)∧w1.cell? ⟨w.heap.size+1,2,none⟩=some (.int .i64 0)∧w1.cell? ⟨w.heap.size+1,3,none⟩=some (.int .i64 0)∧w1.frozen? ⟨w.heap.size+1,0,none⟩=false∧w1.frozen? ⟨w.heap.size+1,1,none⟩=false∧w1.frozen? ⟨w.heap.size+1,2,none⟩=false∧w1.frozen? ⟨w.heap.size+1,3,none⟩=false∧w.heap.size+1<w1.heap.size):Below w.heap.size w (w1.alloc o)∧(w1.alloc o).cell? ⟨w.heap.size,0,none⟩=some (.int .i64 d.W)∧(w1.alloc o).cell? ⟨w.heap.size,1,none⟩=some (.int .i64 d.H)∧(w1.alloc o).cell? ⟨w.heap.size,2,none⟩=some (.int .i64 d.T)∧(w1.alloc o).cell? ⟨w.heap.size,3,none⟩=some (.int .i64 d.R)∧(w1.alloc o).cell? ⟨w.heap.size+1,0,none⟩=some (.slice none 0 0)∧(w1.alloc o).cell? ⟨w.heap.size+1,1,none⟩=some (.slice none 0 0)∧(w1.alloc o).cell? ⟨w.heap.size+1,2,none⟩=some (.int .i64 0)∧(w1.alloc o).cell? ⟨w.heap.size+1,3,none⟩=some (.int .i64 0)∧(w1.alloc o).frozen? ⟨w.heap.size+1,0,none⟩=false∧(w1.alloc o).frozen? ⟨w.heap.size+1,1,none⟩=false∧(w1.alloc o).frozen? ⟨w.heap.size+1,2,none⟩=false∧(w1.alloc o).frozen? ⟨w.heap.size+1,3,none⟩=false∧w.heap.size+1<(w1.alloc o).heap.size:=by
 have hl:=h.2.2.2.2.2.2.2.2.2.2.2.2.2
 exact keep_of h (fun k hk=>Below.heap_alloc _ _ _ (by omega)) (below_new h.1 o) (by simp)
theorem keep_call {w w1 w2:World} {d:Dev} (hb:Below w1.drew.heap.size w1.drew w2) (h:Below w.heap.size w w1∧w1.cell? ⟨w.heap.size,0,none⟩=some (.int .i64 d.W)∧w1.cell? ⟨w.heap.size,1,none⟩=some (.int .i64 d.H)∧w1.cell? ⟨w.heap.size,2,none⟩=some (.int .i64 d.T)∧w1.cell? ⟨w.heap.size,3,none⟩=some (.int .i64 d.R)∧w1.cell? ⟨w.heap.size+1,0,none⟩=some (.slice none 0 0)∧w1.cell? ⟨w.heap.size+1,1,none⟩=some (.slice none 0 0)∧w1.cell? ⟨w.heap.size+1,2,none⟩=some (.int .i64 0)∧w1.cell? ⟨w.heap.size+1,3,none⟩=some (.int .i64 0)∧w1.frozen? ⟨w.heap.size+1,0,none⟩=false∧w1.frozen? ⟨w.heap.size+1,1,none⟩=false∧w1.frozen? ⟨w.heap.size+1,2,none⟩=false∧w1.frozen? ⟨w.heap.size+1,3,none⟩=false∧w.heap.size+1<w1.heap.size):Below w.heap.size w w2∧w2.cell? ⟨w.heap.size,0,none⟩=some (.int .i64 d.W)∧w2.cell? ⟨w.heap.size,1,none⟩=some (.int .i64 d.H)∧w2.cell? ⟨w.heap.size,2,none⟩=some (.int .i64 d.T)∧w2.cell? ⟨w.heap.size,3,none⟩=some (.int .i64 d.R)∧w2.cell? ⟨w.heap.size+1,0,none⟩=some (.slice none 0 0)∧w2.cell? ⟨w.heap.size+1,1,none⟩=some (.slice none 0 0)∧w2.cell? ⟨w.heap.size+1,2,none⟩=some (.int .i64 0)∧w2.cell? ⟨w.heap.size+1,3,none⟩=some (.int .i64 0)∧w2.frozen? ⟨w.heap.size+1,0,none⟩=false∧w2.frozen? ⟨w.heap.size+1,1,none⟩=false∧w2.frozen? ⟨w.heap.size+1,2,none⟩=false∧w2.frozen? ⟨w.heap.size+1,3,none⟩=false∧w.heap.size+1<w2.heap.size:=by
 have hl:=h.2.2.2.2.2.2.2.2.2.2.2.2.2
 exact keep_of h (fun k hk=>hb.block k (Nat.lt_of_lt_of_le hk hl)) (h.1.trans ⟨hb.os,hb.tape,hb.output,hb.size,fun k hk=>hb.block k (Nat.lt_of_lt_of_le hk h.1.size)⟩) hb.size
theorem keep_init {w w1:World} {d:Dev} (hb:Below ((w.alloc (.cells #[.int .i64 d.W,.int .i64 d.H,.int .i64 d.T,.int .i64 d.R] 25)).alloc (.cells #[.slice none 0 0,.slice none 0 0,.int .i64 0,.int .i64 0] 103)).heap.size ((w.alloc (.cells #[.int .i64 d.W,.int .i64 d.H,.int .i64 d.T,.int .i64 d.R] 25)).alloc (.cells #[.slice none 0 0,.slice none 0 0,.int .i64 0,.int .i64 0] 103)) w1):Below w.heap.size w w1∧w1.cell? ⟨w.heap.size,0,none⟩=some (.int .i64 d.W)∧w1.cell? ⟨w.heap.size,1,none⟩=some (.int .i64 d.H)∧w1.cell? ⟨w.heap.size,2,none⟩=some (.int .i64 d.T)∧w1.cell? ⟨w.heap.size,3,none⟩=some (.int .i64 d.R)∧w1.cell? ⟨w.heap.size+1,0,none⟩=some (.slice none 0 0)∧w1.cell? ⟨w.heap.size+1,1,none⟩=some (.slice none 0 0)∧w1.cell? ⟨w.heap.size+1,2,none⟩=some (.int .i64 0)∧w1.cell? ⟨w.heap.size+1,3,none⟩=some (.int .i64 0)∧w1.frozen? ⟨w.heap.size+1,0,none⟩=false∧w1.frozen? ⟨w.heap.size+1,1,none⟩=false∧w1.frozen? ⟨w.heap.size+1,2,none⟩=false∧w1.frozen? ⟨w.heap.size+1,3,none⟩=false∧w.heap.size+1<w1.heap.size:=by
 have hA:((w.alloc (.cells #[.int .i64 d.W,.int .i64 d.H,.int .i64 d.T,.int .i64 d.R] 25)).alloc (.cells #[.slice none 0 0,.slice none 0 0,.int .i64 0,.int .i64 0] 103)).heap[w.heap.size]?=some (.cells #[.int .i64 d.W,.int .i64 d.H,.int .i64 d.T,.int .i64 d.R] 25 (0,0)):=heap_al _ (heap_new _ _)
 have hB:((w.alloc (.cells #[.int .i64 d.W,.int .i64 d.H,.int .i64 d.T,.int .i64 d.R] 25)).alloc (.cells #[.slice none 0 0,.slice none 0 0,.int .i64 0,.int .i64 0] 103)).heap[w.heap.size+1]?=some (.cells #[.slice none 0 0,.slice none 0 0,.int .i64 0,.int .i64 0] 103 (0,0)):=by
  have:=heap_new (w.alloc (.cells #[.int .i64 d.W,.int .i64 d.H,.int .i64 d.T,.int .i64 d.R] 25)) (.cells #[.slice none 0 0,.slice none 0 0,.int .i64 0,.int .i64 0] 103)
  simpa using this
 have hA':=heap_tr hb hA
 have hB':=heap_tr hb hB
 have hs:=hb.size
 simp only [World.size_alloc] at hs
 clear hA hB
 refine ⟨below_tr (below_new (below_new (Below.refl _ _) _) _) hb,?_,?_,?_,?_,?_,?_,?_,?_,?_,?_,?_,?_,by omega⟩
 all_goals first|(unfold World.cell?;rw [hA'];rfl)|(unfold World.cell?;rw [hB'];rfl)|(unfold World.frozen?;rw [hB'];rfl)
theorem post4 {w w1:World} {v0 v1 v2 v3:Value} (hb:Below w.heap.size w w1):Below w.heap.size w ((((w1.setCell ⟨w.heap.size+1,0,none⟩ v0).setCell ⟨w.heap.size+1,1,none⟩ v1).setCell ⟨w.heap.size+1,2,none⟩ v2).setCell ⟨w.heap.size+1,3,none⟩ v3) :=
 (((hb.setCell (p:=⟨w.heap.size+1,0,none⟩) (by simp) _).setCell (p:=⟨w.heap.size+1,1,none⟩) (by simp) _).setCell (p:=⟨w.heap.size+1,2,none⟩) (by simp) _).setCell (p:=⟨w.heap.size+1,3,none⟩) (by simp) _
theorem box_init {w w1:World} {d:Dev} (hb:Below ((w.alloc (.cells #[.int .i64 d.W,.int .i64 d.H,.int .i64 d.T,.int .i64 d.R] 25)).alloc (.cells #[.slice none 0 0,.slice none 0 0,.int .i64 0,.int .i64 0] 103)).heap.size ((w.alloc (.cells #[.int .i64 d.W,.int .i64 d.H,.int .i64 d.T,.int .i64 d.R] 25)).alloc (.cells #[.slice none 0 0,.slice none 0 0,.int .i64 0,.int .i64 0] 103)) w1):w1.heap[w.heap.size+1]?=some (.cells #[.slice none 0 0,.slice none 0 0,.int .i64 0,.int .i64 0] 103 (0,0)):=by
 have hB:((w.alloc (.cells #[.int .i64 d.W,.int .i64 d.H,.int .i64 d.T,.int .i64 d.R] 25)).alloc (.cells #[.slice none 0 0,.slice none 0 0,.int .i64 0,.int .i64 0] 103)).heap[w.heap.size+1]?=some (.cells #[.slice none 0 0,.slice none 0 0,.int .i64 0,.int .i64 0] 103 (0,0)):=by
  have:=heap_new (w.alloc (.cells #[.int .i64 d.W,.int .i64 d.H,.int .i64 d.T,.int .i64 d.R] 25)) (.cells #[.slice none 0 0,.slice none 0 0,.int .i64 0,.int .i64 0] 103)
  simpa using this
 exact heap_tr hb hB
theorem box_sets {w:World} {g:Nat} {v0 v1 v2 v3:Value} (h:w.heap[g]?=some (.cells #[.slice none 0 0,.slice none 0 0,.int .i64 0,.int .i64 0] 103 (0,0))) :
  ((((w.setCell ⟨g,0,none⟩ v0).setCell ⟨g,1,none⟩ v1).setCell ⟨g,2,none⟩ v2).setCell ⟨g,3,none⟩ v3).heap[g]?=some (.cells #[v0,v1,v2,v3] 103 (0,0)) :=
 (heap_set (heap_set (heap_set (heap_set h 0 v0) 1 v1) 2 v2) 3 v3).trans rfl
theorem size_drew4 (w:World):w.drew.heap.size=w.heap.size:=rfl
theorem size_set4 (w:World) (a:Addr) (v:Value):(w.setCell a v).heap.size=w.heap.size:=by simp [World.setCell]
def CutE (a M:Nat) (w w':World):Prop:=∃gm gl g0 g1:Nat,w'.heap[a+1]?=some (.cells #[.slice (some ⟨gm,0,none⟩) M M,.slice (some ⟨gl,0,none⟩) 2 2,.int .i64 0,.int .i64 0] 103 (0,0)) ∧
 (w'.heap[gm]?=some (.cells (arr (List.replicate M 0)) 3 (0,0))∧w'.heap[gl]?=some (.cells #[.slice (some ⟨g0,0,none⟩) 4 4,.int .i64 0,.int .i64 0,.int .i64 0,.slice (some ⟨g1,0,none⟩) 4 4,.int .i64 0,.int .i64 0,.int .i64 0] 107 (0,0))∧w'.heap[g0]?=some (.cells (arr [0,0,0,0]) 3 (0,0))∧w'.heap[g1]?=some (.cells (arr [0,0,0,0]) 3 (0,0))) ∧
 (a≤gm∧a≤gl∧a≤g0∧a≤g1)∧(gm≠gl∧gm≠g0∧gm≠g1∧gl≠g0∧gl≠g1∧g0≠g1)∧Below w.heap.size w w'
theorem cutE_mk {a M:Nat} {w w':World} {gm gl g0 g1:Nat} (x:w'.heap[a+1]?=some (.cells #[.slice (some ⟨gm,0,none⟩) M M,.slice (some ⟨gl,0,none⟩) 2 2,.int .i64 0,.int .i64 0] 103 (0,0))) (hl:w'.heap[gl]?=some (.cells #[.slice (some ⟨g0,0,none⟩) 4 4,.int .i64 0,.int .i64 0,.int .i64 0,.slice (some ⟨g1,0,none⟩) 4 4,.int .i64 0,.int .i64 0,.int .i64 0] 107 (0,0))) (hm:w'.heap[gm]?=some (.cells (arr (List.replicate M 0)) 3 (0,0))) (h0:w'.heap[g0]?=some (.cells (arr [0,0,0,0]) 3 (0,0))) (h1:w'.heap[g1]?=some (.cells (arr [0,0,0,0]) 3 (0,0))) (hle:a≤gm∧a≤gl∧a≤g0∧a≤g1) (hne:gm≠gl∧gm≠g0∧gm≠g1∧gl≠g0∧gl≠g1∧g0≠g1) (hb:Below w.heap.size w w'):CutE a M w w':=⟨gm,gl,g0,g1,x,⟨hm,hl,h0,h1⟩,hle,hne,hb⟩
theorem k4_al {w w1:World} {d:Dev} (o:Obj) (h:w1.cell? ⟨w.heap.size,0,none⟩=some (.int .i64 d.W)∧w1.cell? ⟨w.heap.size,1,none⟩=some (.int .i64 d.H)∧w1.cell? ⟨w.heap.size,2,none⟩=some (.int .i64 d.T)∧w1.cell? ⟨w.heap.size,3,none⟩=some (.int .i64 d.R)):(w1.alloc o).cell? ⟨w.heap.size,0,none⟩=some (.int .i64 d.W)∧(w1.alloc o).cell? ⟨w.heap.size,1,none⟩=some (.int .i64 d.H)∧(w1.alloc o).cell? ⟨w.heap.size,2,none⟩=some (.int .i64 d.T)∧(w1.alloc o).cell? ⟨w.heap.size,3,none⟩=some (.int .i64 d.R):=by
 obtain ⟨h0,h1,h2,h3⟩:=h
 have c:=fun (k:Nat) (hl:w.heap.size<w1.heap.size)=>World.cell?_of_block (a:=⟨w.heap.size,k,none⟩) (Below.heap_alloc w1 o w.heap.size hl)
 have hl:w.heap.size<w1.heap.size:=World.block_lt_of_cell? w1 ⟨w.heap.size,0,none⟩ h0
 exact ⟨(c _ hl).trans h0,(c _ hl).trans h1,(c _ hl).trans h2,(c _ hl).trans h3⟩
theorem k4_drew {w w1:World} {d:Dev} (h:w1.cell? ⟨w.heap.size,0,none⟩=some (.int .i64 d.W)∧w1.cell? ⟨w.heap.size,1,none⟩=some (.int .i64 d.H)∧w1.cell? ⟨w.heap.size,2,none⟩=some (.int .i64 d.T)∧w1.cell? ⟨w.heap.size,3,none⟩=some (.int .i64 d.R)):w1.drew.cell? ⟨w.heap.size,0,none⟩=some (.int .i64 d.W)∧w1.drew.cell? ⟨w.heap.size,1,none⟩=some (.int .i64 d.H)∧w1.drew.cell? ⟨w.heap.size,2,none⟩=some (.int .i64 d.T)∧w1.drew.cell? ⟨w.heap.size,3,none⟩=some (.int .i64 d.R):=h
theorem k4_set {w w1:World} {d:Dev} (k:Nat) (v:Value) (h:w1.cell? ⟨w.heap.size,0,none⟩=some (.int .i64 d.W)∧w1.cell? ⟨w.heap.size,1,none⟩=some (.int .i64 d.H)∧w1.cell? ⟨w.heap.size,2,none⟩=some (.int .i64 d.T)∧w1.cell? ⟨w.heap.size,3,none⟩=some (.int .i64 d.R)):(w1.setCell ⟨w.heap.size+1,k,none⟩ v).cell? ⟨w.heap.size,0,none⟩=some (.int .i64 d.W)∧(w1.setCell ⟨w.heap.size+1,k,none⟩ v).cell? ⟨w.heap.size,1,none⟩=some (.int .i64 d.H)∧(w1.setCell ⟨w.heap.size+1,k,none⟩ v).cell? ⟨w.heap.size,2,none⟩=some (.int .i64 d.T)∧(w1.setCell ⟨w.heap.size+1,k,none⟩ v).cell? ⟨w.heap.size,3,none⟩=some (.int .i64 d.R):=by
 obtain ⟨h0,h1,h2,h3⟩:=h
 have c:=fun (o:Nat)=>World.cell?_of_block (w:=w1) (w':=w1.setCell ⟨w.heap.size+1,k,none⟩ v) (a:=⟨w.heap.size,o,none⟩) (Below.heap_setCell _ _ _ _ (by simp))
 exact ⟨(c _).trans h0,(c _).trans h1,(c _).trans h2,(c _).trans h3⟩
theorem k4_sets {w w1:World} {d:Dev} {v0 v1 v2 v3:Value} (h:w1.cell? ⟨w.heap.size,0,none⟩=some (.int .i64 d.W)∧w1.cell? ⟨w.heap.size,1,none⟩=some (.int .i64 d.H)∧w1.cell? ⟨w.heap.size,2,none⟩=some (.int .i64 d.T)∧w1.cell? ⟨w.heap.size,3,none⟩=some (.int .i64 d.R)):((((w1.setCell ⟨w.heap.size+1,0,none⟩ v0).setCell ⟨w.heap.size+1,1,none⟩ v1).setCell ⟨w.heap.size+1,2,none⟩ v2).setCell ⟨w.heap.size+1,3,none⟩ v3).cell? ⟨w.heap.size,0,none⟩=some (.int .i64 d.W)∧((((w1.setCell ⟨w.heap.size+1,0,none⟩ v0).setCell ⟨w.heap.size+1,1,none⟩ v1).setCell ⟨w.heap.size+1,2,none⟩ v2).setCell ⟨w.heap.size+1,3,none⟩ v3).cell? ⟨w.heap.size,1,none⟩=some (.int .i64 d.H)∧((((w1.setCell ⟨w.heap.size+1,0,none⟩ v0).setCell ⟨w.heap.size+1,1,none⟩ v1).setCell ⟨w.heap.size+1,2,none⟩ v2).setCell ⟨w.heap.size+1,3,none⟩ v3).cell? ⟨w.heap.size,2,none⟩=some (.int .i64 d.T)∧((((w1.setCell ⟨w.heap.size+1,0,none⟩ v0).setCell ⟨w.heap.size+1,1,none⟩ v1).setCell ⟨w.heap.size+1,2,none⟩ v2).setCell ⟨w.heap.size+1,3,none⟩ v3).cell? ⟨w.heap.size,3,none⟩=some (.int .i64 d.R):=k4_set 3 _ (k4_set 2 _ (k4_set 1 _ (k4_set 0 _ h)))

set_option maxHeartbeats 8000000 in
theorem emptyTile_any (d:Dev) (w:World) (hd:devOk d=true) :
  Calls Tryz.prog 224 #[.agg #[.int .i64 d.W,.int .i64 d.H,.int .i64 d.T,.int .i64 d.R]] w (EmptyPost w (muxN d)):=by
 obtain ⟨hm,hm1,hm2,_⟩:=muxN_bd hd
 have HD:=Lib.hid hd
 obtain ⟨i0,hi,hz0,hz1,hz2⟩:=info_parts int_info
 have hmk:=fun W=>run_make_rowN (P:=Tryz.prog) 27 3 i0 _ Tryz.underlying27 hi hz0 .i64 .i64 (muxN d) (muxN d) (Nat.le_refl _) (by rw [hz2];omega) (by omega) W
 have hmk4:∀W:World,(Instr.makeSlice 27 (.int .i64 4) (.int .i64 4)).run Tryz.prog W = .ok (.slice (some ⟨W.heap.size,0,none⟩) 4 4) (W.alloc (.cells (madeCells (Value.int .i64 0).cells (4 * i0.size)) 3)):=fun W=>run_make_rowN (P:=Tryz.prog) 27 3 i0 _ Tryz.underlying27 hi hz0 .i64 .i64 4 4 (Nat.le_refl _) (by rw [hz2];omega) (by omega) W
 rw [hz1,Nat.mul_one,show (Value.int .i64 0).cells=#[Value.int .i64 0] from rfl,arr_made] at hmk hmk4
 clear hi hz0 hz1 hz2
 generalize hMM:muxN d=M at *
 have HMM:=Lib.hid hMM
 have hmc:∀w,Calls Tryz.prog 174 #[.agg #[.int .i64 d.W,.int .i64 d.H,.int .i64 d.T,.int .i64 d.R]] w fun e w'=>e = .returned (.int .i64 (M:Int))∧Below w.heap.size w w':=fun w=>by rw [←HMM.out];exact muxCount_n d w HD.out
 have HMC:=Lib.hid hmc
 clear hd hm hMM hmc
 go_enter Tryz.func224,Tryz.ntmps224
 go_wp2_with fail
 refine (deviceOk_any d _).mono ?_
 rintro e w1 ⟨rfl,b1⟩
 have hS:=keep_init b1
 have hX1:=Lib.hid (box_init b1)
 rw [HD.out]
 go_wp2_with fail
 clear b1
 obtain ⟨hB,c0,c1,c2,c3,e0,e1,e2,e3,f0,f1,f2,f3,hl⟩:=hS
 obtain ⟨p1,p2,p3,p4,p5,p6⟩:=apart4 (a:=w.heap.size) (b:=w1.heap.size) (by omega)
 have hq1:w.heap.size+1<w1.heap.size:=p1
 have HH:=Lib.hid (show Below w.heap.size w w1∧w1.cell? ⟨w.heap.size,0,none⟩=some (.int .i64 d.W)∧w1.cell? ⟨w.heap.size,1,none⟩=some (.int .i64 d.H)∧w1.cell? ⟨w.heap.size,2,none⟩=some (.int .i64 d.T)∧w1.cell? ⟨w.heap.size,3,none⟩=some (.int .i64 d.R)∧w1.cell? ⟨w.heap.size+1,0,none⟩=some (.slice none 0 0)∧w1.cell? ⟨w.heap.size+1,1,none⟩=some (.slice none 0 0)∧w1.cell? ⟨w.heap.size+1,2,none⟩=some (.int .i64 0)∧w1.cell? ⟨w.heap.size+1,3,none⟩=some (.int .i64 0)∧w1.frozen? ⟨w.heap.size+1,0,none⟩=false∧w1.frozen? ⟨w.heap.size+1,1,none⟩=false∧w1.frozen? ⟨w.heap.size+1,2,none⟩=false∧w1.frozen? ⟨w.heap.size+1,3,none⟩=false∧w.heap.size+1<w1.heap.size from ⟨hB,c0,c1,c2,c3,e0,e1,e2,e3,f0,f1,f2,f3,hl⟩)
 clear hl hB hm1 hm2
 have H4:w1.cell? ⟨w.heap.size,0,none⟩=some (.int .i64 d.W)∧w1.cell? ⟨w.heap.size,1,none⟩=some (.int .i64 d.H)∧w1.cell? ⟨w.heap.size,2,none⟩=some (.int .i64 d.T)∧w1.cell? ⟨w.heap.size,3,none⟩=some (.int .i64 d.R):=⟨c0,c1,c2,c3⟩
 clear c0 c1 c2 c3
 go_cut [] (fun wx=>CutE w.heap.size M w wx)
 case first =>
  go_region_held3 (fun w'=>w'.cell? ⟨w.heap.size,0,none⟩=some (.int .i64 d.W)∧w'.cell? ⟨w.heap.size,1,none⟩=some (.int .i64 d.H)∧w'.cell? ⟨w.heap.size,2,none⟩=some (.int .i64 d.T)∧w'.cell? ⟨w.heap.size,3,none⟩=some (.int .i64 d.R))
   (first
    | with_reducible exact k4_drew H4
    | with_reducible exact k4_drew (k4_al _ H4)
    | with_reducible exact k4_drew (k4_al _ (k4_al _ H4))
    | with_reducible exact k4_drew (k4_al _ (k4_al _ (k4_al _ H4)))
    | with_reducible exact k4_drew (k4_al _ (k4_al _ (k4_al _ (k4_al _ H4))))
    | with_reducible exact (k4_sets H4)
    | with_reducible exact (k4_al _ (k4_sets H4))
    | with_reducible exact (k4_al _ (k4_al _ (k4_sets H4)))
    | with_reducible exact (k4_al _ (k4_al _ (k4_al _ (k4_sets H4))))
    | with_reducible exact (k4_al _ (k4_al _ (k4_al _ (k4_al _ (k4_sets H4)))))
    | with_reducible exact H4
    | with_reducible exact (k4_al _ H4)
    | with_reducible exact (k4_al _ (k4_al _ H4))
    | with_reducible exact (k4_al _ (k4_al _ (k4_al _ H4)))
    | with_reducible exact (k4_al _ (k4_al _ (k4_al _ (k4_al _ H4)))))
   (first
    | (go_at_call 174;(with_reducible refine (HMC.out _).mono ?_);rintro e w2 ⟨rfl,b2⟩;(first|(with_reducible have hS2:=keep_call b2 HH.out)|(with_reducible have hS2:=keep_call b2 (keep_al _ HH.out))|(with_reducible have hS2:=keep_call b2 (keep_al _ (keep_al _ HH.out)))|(with_reducible have hS2:=keep_call b2 (keep_al _ (keep_al _ (keep_al _ HH.out)))));have hz2:=b2.size;(try simp only [World.size_alloc,size_drew4] at hz2);have hb2:=Lib.hid b2;have hX2:=Lib.hid (heap_tr b2 (heap_dr (by first|exact hX1.out|exact heap_al _ hX1.out|exact heap_al _ (heap_al _ hX1.out)|exact heap_al _ (heap_al _ (heap_al _ hX1.out)))));clear b2 H4 HH e0 e1 e2 e3 f0 f1 f2 f3 p1 p2 p3 p4 p5 p6;have HH:=Lib.hid hS2;obtain ⟨hB,c0,c1,c2,c3,e0,e1,e2,e3,f0,f1,f2,f3,hl⟩:=hS2;obtain ⟨p1,p2,p3,p4,p5,p6⟩:=apart4 (a:=w.heap.size) (b:=w2.heap.size) (by omega);clear hl hB;have H4:w2.cell? ⟨w.heap.size,0,none⟩=some (.int .i64 d.W)∧w2.cell? ⟨w.heap.size,1,none⟩=some (.int .i64 d.H)∧w2.cell? ⟨w.heap.size,2,none⟩=some (.int .i64 d.T)∧w2.cell? ⟨w.heap.size,3,none⟩=some (.int .i64 d.R):=⟨c0,c1,c2,c3⟩;clear c0 c1 c2 c3))
  all_goals
   go_wp2_with fail
   go_meet
   clear e0 e1 e2 e3 f0 f1 f2 f3
   refine cutE_mk (by with_reducible first|exact (box_sets hX2.out)|exact (heap_al _ (box_sets hX2.out))|exact (heap_al _ (heap_al _ (box_sets hX2.out)))|exact (heap_al _ (heap_al _ (heap_al _ (box_sets hX2.out))))|exact (heap_al _ (heap_al _ (heap_al _ (heap_al _ (box_sets hX2.out)))))) (by repeat (first|(with_reducible refine heap_newAt ?_;(simp only [World.size_alloc,size_set4]);done)|with_reducible refine heap_al _ ?_|with_reducible refine heap_st _ ?_ (by simp only;omega)|with_reducible refine heap_tr hb2.out ?_|with_reducible refine heap_dr ?_)) ?_ ?_ ?_ ?_ ?_ ?_
   ·repeat (first
     | (with_reducible refine heap_newAt ?_;(simp only [World.size_alloc,size_set4]);done)
     | with_reducible refine heap_al _ ?_
     | with_reducible refine heap_st _ ?_ (by simp only;omega)
     | with_reducible refine heap_tr hb2.out ?_
     | with_reducible refine heap_dr ?_)
   ·repeat (first
     | (with_reducible refine heap_newAt ?_;(simp only [World.size_alloc,size_set4]);done)
     | with_reducible refine heap_al _ ?_
     | with_reducible refine heap_st _ ?_ (by simp only;omega)
     | with_reducible refine heap_tr hb2.out ?_
     | with_reducible refine heap_dr ?_)
   ·repeat (first
     | (with_reducible refine heap_newAt ?_;(simp only [World.size_alloc,size_set4]);done)
     | with_reducible refine heap_al _ ?_
     | with_reducible refine heap_st _ ?_ (by simp only;omega)
     | with_reducible refine heap_tr hb2.out ?_
     | with_reducible refine heap_dr ?_)
   all_goals first|omega|(with_reducible first|exact (post4 HH.out.1)|exact (below_new (post4 HH.out.1) _)|exact (below_new (below_new (post4 HH.out.1) _) _)|exact (below_new (below_new (below_new (post4 HH.out.1) _) _) _)|exact (below_new (below_new (below_new (below_new (post4 HH.out.1) _) _) _) _)|exact ((post4 HH.out.1)).drew|exact ((below_new (post4 HH.out.1) _)).drew|exact ((below_new (below_new (post4 HH.out.1) _) _)).drew|exact ((below_new (below_new (below_new (post4 HH.out.1) _) _) _)).drew|exact ((below_new (below_new (below_new (below_new (post4 HH.out.1) _) _) _) _)).drew)
 case rest =>
  clear e0 e1 e2 e3 f0 f1 f2 f3 p1 p2 p3 p4 p5 p6 H4
  obtain ⟨gm,gl,g0,g1,hx,⟨k1,k2,k3,k4⟩,⟨l1,l2,l3,l4⟩,⟨n1,n2,n3,n4,n5,n6⟩,hbw⟩:=hcut
  have d0:=cell_heap hx (k:=0) rfl
  have d1:=cell_heap hx (k:=1) rfl
  have d2:=cell_heap hx (k:=2) rfl
  have d3:=cell_heap hx (k:=3) rfl
  have HP:=Lib.hid (tile_nodes hbw ⟨l1,l2,l3,l4⟩ ⟨n1,n2,n3,n4,n5,n6⟩ k1 k2 k3 k4)
  clear hx k1 k2 k3 k4 hbw hmk hmk4
  go_wp2_with fail
  exact bodyPost_ret (v := .agg #[.slice (some ⟨gm,0,none⟩) M M,.slice (some ⟨gl,0,none⟩) 2 2,.int .i64 0,.int .i64 0]) (by simp [results,Tryz.results224,go_sem,d0,d1,d2,d3]) rfl HP.out
end Go.Proofs.YtignkfhdkcgkgaaGreat
