/- NewBoard of both: the program's and the reference's answers are one. How long frames are. NewBoard: how much a new board holds. Words become codewords, by the program. What the operations of a board compute. -/
import Derived.Laws.CopyOwn
import Derived.Laws.Tables
import Derived.Lib.SmallJoins
import Derived.Test.YtbnfdhidgdfbeaaGreatBk
import Derived.Test.YtbnfdhidgdfbeaaGreatData
import Derived.Test.YtbnfdhidgdfbeaaGreatDeco
import Derived.Test.YtbnfdhidgdfbeaaGreatEsPure
import Derived.Test.YtbnfdhidgdfbeaaGreatFlip
import Derived.Test.YtbnfdhidgdfbeaaGreatStart
import Derived.Test.YtbnfdhidgdfbeaaGreatStartS
import Derived.Test.YtbnfdhidgdfbeaaGreatValS2
namespace Go.Proofs.YtbnfdhidgdfbeaaGreat
set_option maxRecDepth 100000
open Go.RowKit

def zBd:Bd:=⟨⟨0,0,0,0⟩,[],[],0,⟨0,0,0,0⟩,[]⟩
def newB (d:Dev) (fs:List (List Int)):Bd:=if framesOk d fs=true then ⟨d,fs,startF d fs,0,⟨0,0,0,0⟩,[]⟩ else zBd
theorem newB_bad {d:Dev} {fs:List (List Int)} (h:framesOk d fs=false):newB d fs=zBd:=by unfold newB;rw [h];rfl
theorem newB_good {d:Dev} {fs:List (List Int)} (h:framesOk d fs=true):newB d fs=⟨d,fs,startF d fs,0,⟨0,0,0,0⟩,[]⟩:=by unfold newB;rw [h];rfl
theorem zBd_at (lo hi:Nat) (w:World) (h:lo≤hi):BoardAt lo hi w zBd ⟨none,0,0,none,0,0,none,0,0⟩ :=
 ⟨lo,lo,lo,lo,lo,lo,Own2.nil,Own.nil,by rintro a ⟨⟩,Own2.nil,.inl (Nat.le_refl _),.inl (Nat.le_refl _),.inl (Nat.le_refl _),⟨Nat.le_refl _,h⟩,⟨Nat.le_refl _,h⟩,⟨Nat.le_refl _,h⟩⟩
theorem keep4s {w:World} {g:Nat} {p:Addr} {v v0 v1 v2 v3:Value} (hne:g≠p.block) (h:w.cell? ⟨g,0,none⟩=some v0∧w.cell? ⟨g,1,none⟩=some v1∧w.cell? ⟨g,2,none⟩=some v2∧w.cell? ⟨g,3,none⟩=some v3):(w.setCell p v).cell? ⟨g,0,none⟩=some v0∧(w.setCell p v).cell? ⟨g,1,none⟩=some v1∧(w.setCell p v).cell? ⟨g,2,none⟩=some v2∧(w.setCell p v).cell? ⟨g,3,none⟩=some v3 :=
 ⟨(World.cell?_of_block (a:=⟨g,0,none⟩) (Below.heap_setCell w p v g hne)).trans h.1,(World.cell?_of_block (a:=⟨g,1,none⟩) (Below.heap_setCell w p v g hne)).trans h.2.1,(World.cell?_of_block (a:=⟨g,2,none⟩) (Below.heap_setCell w p v g hne)).trans h.2.2.1,(World.cell?_of_block (a:=⟨g,3,none⟩) (Below.heap_setCell w p v g hne)).trans h.2.2.2⟩
theorem keep4s12 {w:World} {g gw:Nat} {v0 v1 v2 v3 u0 u1 u2 u3 u4 u5 u6 u7 u8 u9 u10 u11:Value} (hne:g≠gw) (h:w.cell? ⟨g,0,none⟩=some v0∧w.cell? ⟨g,1,none⟩=some v1∧w.cell? ⟨g,2,none⟩=some v2∧w.cell? ⟨g,3,none⟩=some v3):((((((((((((w.setCell ⟨gw,0,none⟩ u0).setCell ⟨gw,1,none⟩ u1).setCell ⟨gw,2,none⟩ u2).setCell ⟨gw,3,none⟩ u3).setCell ⟨gw,4,none⟩ u4).setCell ⟨gw,5,none⟩ u5).setCell ⟨gw,6,none⟩ u6).setCell ⟨gw,7,none⟩ u7).setCell ⟨gw,8,none⟩ u8).setCell ⟨gw,9,none⟩ u9).setCell ⟨gw,10,none⟩ u10).setCell ⟨gw,11,none⟩ u11).cell? ⟨g,0,none⟩=some v0∧((((((((((((w.setCell ⟨gw,0,none⟩ u0).setCell ⟨gw,1,none⟩ u1).setCell ⟨gw,2,none⟩ u2).setCell ⟨gw,3,none⟩ u3).setCell ⟨gw,4,none⟩ u4).setCell ⟨gw,5,none⟩ u5).setCell ⟨gw,6,none⟩ u6).setCell ⟨gw,7,none⟩ u7).setCell ⟨gw,8,none⟩ u8).setCell ⟨gw,9,none⟩ u9).setCell ⟨gw,10,none⟩ u10).setCell ⟨gw,11,none⟩ u11).cell? ⟨g,1,none⟩=some v1∧((((((((((((w.setCell ⟨gw,0,none⟩ u0).setCell ⟨gw,1,none⟩ u1).setCell ⟨gw,2,none⟩ u2).setCell ⟨gw,3,none⟩ u3).setCell ⟨gw,4,none⟩ u4).setCell ⟨gw,5,none⟩ u5).setCell ⟨gw,6,none⟩ u6).setCell ⟨gw,7,none⟩ u7).setCell ⟨gw,8,none⟩ u8).setCell ⟨gw,9,none⟩ u9).setCell ⟨gw,10,none⟩ u10).setCell ⟨gw,11,none⟩ u11).cell? ⟨g,2,none⟩=some v2∧((((((((((((w.setCell ⟨gw,0,none⟩ u0).setCell ⟨gw,1,none⟩ u1).setCell ⟨gw,2,none⟩ u2).setCell ⟨gw,3,none⟩ u3).setCell ⟨gw,4,none⟩ u4).setCell ⟨gw,5,none⟩ u5).setCell ⟨gw,6,none⟩ u6).setCell ⟨gw,7,none⟩ u7).setCell ⟨gw,8,none⟩ u8).setCell ⟨gw,9,none⟩ u9).setCell ⟨gw,10,none⟩ u10).setCell ⟨gw,11,none⟩ u11).cell? ⟨g,3,none⟩=some v3 :=
 keep4s hne (keep4s hne (keep4s hne (keep4s hne (keep4s hne (keep4s hne (keep4s hne (keep4s hne (keep4s hne (keep4s hne (keep4s hne (keep4s hne h)))))))))))
set_option maxHeartbeats 4000000 in
theorem snewBoard_any (d:Dev) (A:Option Addr) (n c:Nat) (fs:List (List Int)) (w:World) (hA:Rows2 w A n fs) (hz:size2 fs≤1099511627776) :
  Calls Tryz.prog 12 #[.agg #[.int .i64 d.W,.int .i64 d.H,.int .i64 d.T,.int .i64 d.R],.slice A n c] w fun e w'=>∃s,e = .returned (.tuple #[.agg (bdArr (newB d fs) s),.bool (framesOk d fs)])∧BoardAt w.heap.size w'.heap.size w' (newB d fs) s∧Below w.heap.size w w':=by
 have hB0:Below w.heap.size w (w.alloc (.cells #[.int .i64 d.W,.int .i64 d.H,.int .i64 d.T,.int .i64 d.R] 25)):=below_new (Below.refl _ _) _
 have HI:=Lib.hid hA
 have HX:=Lib.hid hA.1
 clear hA
 go_enter Tryz.func12,Tryz.ntmps12
 go_wp2_with fail
 refine (sframesOk_any d A n c fs _ (HI.out.below (below_new hB0 _)) hz).mono ?_
 rintro e w1 ⟨rfl,b1⟩
 have hs1:=b1.size
 simp only [World.size_alloc] at hs1
 have B1:=Lib.hid (below_tr (below_new hB0 _) b1)
 have HZ:Hid (w1.heap[w.heap.size+1]?=some (.cells (bdArr zBd ⟨none,0,0,none,0,0,none,0,0⟩) 31 (0,0))):=heap_tr b1 (heap_newAt (by simp))
 have HW1:=B1
 have HQ:=Lib.hid (keep4 b1 (by simp;omega) (keep4 (below_new (Below.refl _ _) _) (by simp) (box4 w d)))
 obtain ⟨z0,z1,z2,z3,z4,z5,z6,z7,z8,z9,z10,z11⟩:=cells12 HZ.out
 have y0:=fun k=>frozen_heap HZ.out k
 clear b1
 cases hf:framesOk d fs with
 | false =>
  have HF:=Lib.hid hf
  clear hf
  go_wp2_with fail
  generalize hWF:World.setCell _ _ _=WF
  have hb:WF.heap[w.heap.size+1]?=some (.cells (bdArr zBd ⟨none,0,0,none,0,0,none,0,0⟩) 31 (0,0)):=by rw [←hWF];exact set12 HZ.out
  have hsz:WF.heap.size=w1.heap.size:=by rw [←hWF];simp only [World.size_setCell]
  have hB:Below w.heap.size w WF:=by
   rw [←hWF]
   repeat (first|with_reducible exact B1.out|with_reducible refine Below.setCell ?_ (by simp only;omega) _)
  clear hWF z0 z1 z2 z3 z4 z5 z6 z7 z8 z9 z10 z11 y0
  refine bodyPost_ret (v := .tuple #[.agg (bdArr zBd ⟨none,0,0,none,0,0,none,0,0⟩),.bool false]) (results_cell2 Tryz.results12 rfl hb Tryz.underlying31 (by kernel_rfl)) rfl ⟨⟨none,0,0,none,0,0,none,0,0⟩,by rw [newB_bad HF.out,HF.out],by rw [newB_bad HF.out];exact zBd_at _ _ _ hB.size,hB⟩
 | true =>
  have HF:=Lib.hid hf
  have hww:w.heap.size<w1.heap.size:=by omega
  have hD:=Below.refl w1.heap.size w1
  have hne:w.heap.size≠w.heap.size+1:=by omega
  have hw11:w.heap.size+1<w1.heap.size:=by omega
  clear hf z0 z1 z2 z3 z4 z5 z6 z7 z8 z9 z10 z11 y0
  go_wp2_with fail
  go_region_held3 (fun w'=>w'.cell? ⟨w.heap.size,0,none⟩=some (.int .i64 d.W)∧w'.cell? ⟨w.heap.size,1,none⟩=some (.int .i64 d.H)∧w'.cell? ⟨w.heap.size,2,none⟩=some (.int .i64 d.T)∧w'.cell? ⟨w.heap.size,3,none⟩=some (.int .i64 d.R))
   (first|with_reducible exact keep4s12 hne (keep4 hD hww HQ.out)|with_reducible exact keep4s12 hne (keep4 hD.drew hww HQ.out)|with_reducible exact keep4 hD hww HQ.out|with_reducible exact keep4 hD.drew hww HQ.out)
   (first
    | (go_at_call 48;(with_reducible refine (l19Copy_any A n c fs _ (HI.out.below (below_tr B1.out (by first|with_reducible exact hD|with_reducible exact hD.drew))) hz).mono ?_);rintro e w2 ⟨A2,c2,rfl,o2,b2⟩;have O2:=Lib.hid o2;have hb2:=Lib.hid b2;have hD2:=below_tr (a:=w1) (by first|with_reducible exact hD|with_reducible exact hD.drew) b2;clear b2 o2;replace hD:=hD2;(try clear z0 z1 z2 z3 z4 z5 z6 z7 z8 z9 z10 z11 y0);have HZc:=heap_tr hD HZ.out;obtain ⟨z0,z1,z2,z3,z4,z5,z6,z7,z8,z9,z10,z11⟩:=cells12 HZc;have y0:=fun k=>frozen_heap HZc k;clear HZc)
    | (go_at_call 28;(with_reducible refine (semuStart_any d A n c fs _ (HI.out.below (below_tr B1.out (by first|with_reducible exact hD|with_reducible exact hD.drew))) hz).mono ?_);rintro e w3 ⟨A3,n3,c3,rfl,o3,b3⟩;have O3:=Lib.hid o3;have hb3:=Lib.hid b3;have hD2:=below_tr (a:=w1) (by first|with_reducible exact hD|with_reducible exact hD.drew) b3;clear b3 o3;replace hD:=hD2;(try clear z0 z1 z2 z3 z4 z5 z6 z7 z8 z9 z10 z11 y0);have HZc:=heap_tr hD HZ.out;obtain ⟨z0,z1,z2,z3,z4,z5,z6,z7,z8,z9,z10,z11⟩:=cells12 HZc;have y0:=fun k=>frozen_heap HZc k;clear HZc))
  ·clear z0 z1 z2 z3 z4 z5 z6 z7 z8 z9 z10 z11 y0
   go_wp2_with fail
   have hs9:=hD.size
   have hs2:=hb2.out.size
   have hs3:=hb3.out.size
   have hs4:=HW1.out.size
   have e1:w1.drew.heap.size=w1.heap.size:=rfl
   (try rw [e1] at hs2)
   (try rw [e1] at hs3)
   generalize hWF:World.setCell _ _ _=WF
   have hb:WF.heap[w.heap.size+1]?=some (.cells (bdArr (newB d fs) ⟨A2,n,c2,A3,n3,c3,none,0,0⟩) 31 (0,0)):=by
    rw [←hWF,newB_good HF.out]
    exact set12 (heap_tr hD HZ.out)
   have hC:Chg (w.heap.size+1) (w.heap.size+2) w3 WF:=by
    rw [←hWF]
    repeat (first|with_reducible exact Chg.refl _ _ _|with_reducible refine Chg.set ?_ (by omega) (by omega) _)
   have hB:Below w.heap.size w WF:=by
    have h0:=below_tr B1.out hD
    rw [←hWF]
    repeat (first|with_reducible exact h0|with_reducible refine Below.setCell ?_ (by simp only;omega) _)
   have hsz:=hC.size
   have K2:=(O2.out.below hb3.out).chg hC (.inr (by first|omega|(simp only [World.size_drew];omega)))
   have K3:=(O3.out).chg hC O3.out.lies (.inr (by first|omega|(simp only [World.size_drew];omega)))
   have l3:=O3.out.lies
   (try rw [e1] at K2);(try rw [e1] at K3);(try rw [e1] at l3)
   clear hWF
   refine bodyPost_ret (v := .tuple #[.agg (bdArr (newB d fs) ⟨A2,n,c2,A3,n3,c3,none,0,0⟩),.bool true]) (results_cell2 Tryz.results12 rfl hb Tryz.underlying31 (by kernel_rfl)) rfl ⟨⟨A2,n,c2,A3,n3,c3,none,0,0⟩,by rw [HF.out],?_,hB⟩
   rw [newB_good HF.out]
   exact ⟨_,_,_,_,w.heap.size,w.heap.size,K2,K3,l3,Own2.nil,by unfold Ap;omega,by unfold Ap;omega,by unfold Ap;omega,⟨by omega,by omega⟩,⟨by omega,by omega⟩,⟨Nat.le_refl _,by omega⟩⟩
end Go.Proofs.YtbnfdhidgdfbeaaGreat

namespace Go.Proofs.YtbnfdhidgdfbeaaGreat
set_option maxRecDepth 100000
open Go.RowKit

theorem size2_le_of {xss:List (List Int)} {M:Nat} (h:∀j,j<xss.length→(xss[j]?.getD []).length≤M):size2 xss≤xss.length * (M+1)∧sizeTo xss xss.length≤xss.length * M:=by
 have key:∀k,k≤xss.length→sizeTo xss k≤k * M:=by
  intro k hk
  induction k with
  | zero=>exact Nat.zero_le _
  | succ k ih =>
   have hl:=h k (by omega)
   rw [sizeTo,Nat.succ_mul]
   have:=ih (by omega)
   omega
 have:=key xss.length (Nat.le_refl _)
 refine ⟨?_,this⟩
 unfold size2
 rw [Nat.mul_succ]
 omega
theorem rows_le {fs:List (List Int)} (h:∀j,j<fs.length→(fs[j]?.getD []).length≤11) (hn:fs.length≤36):size2 fs≤432:=by
 have h1:=(size2_le_of h).1
 have h3:fs.length * (11+1)≤36 * 12:=Nat.mul_le_mul_right _ hn
 omega
theorem frame_len {d:Dev} {fs:List (List Int)} (hf:framesOk d fs=true) (j:Nat):(fs[j]?.getD []).length≤11:=by
 rcases Nat.lt_or_ge j fs.length with hj|hj
 ·have h1:=(frames_in hf hj).2
  have h2:=fwI_bd (framesOk_iff hf).1
  omega
 ·rw [List.getElem?_eq_none hj];simp

end Go.Proofs.YtbnfdhidgdfbeaaGreat

namespace Go.Proofs.YtbnfdhidgdfbeaaGreat
set_option maxRecDepth 100000
open Go.RowKit

theorem cells4 {w:World} {g:Nat} {v0 v1 v2 v3:Value} {t:TypeId} (h:w.heap[g]?=some (.cells #[v0,v1,v2,v3] t (0,0))):w.cell? ⟨g,0,none⟩=some v0∧w.cell? ⟨g,1,none⟩=some v1∧w.cell? ⟨g,2,none⟩=some v2∧w.cell? ⟨g,3,none⟩=some v3:=⟨cell_heap h rfl,cell_heap h rfl,cell_heap h rfl,cell_heap h rfl⟩
end Go.Proofs.YtbnfdhidgdfbeaaGreat

namespace Go.Proofs.YtbnfdhidgdfbeaaGreat
set_option maxRecDepth 100000
open Go.RowKit Cw

def encL (ws:List Int):List Int:=ws.map fun x=>((encW x.toNat:Nat):Int)
theorem encL_take {ws:List Int} {k:Nat} (h:k<ws.length):encL (ws.take (k+1))=encL (ws.take k)++[((Cw.encW (ws[k]?.getD 0).toNat:Nat):Int)]:=by
 unfold encL
 rw [List.take_add_one,List.getElem?_eq_getElem h,List.map_append]
 rfl
theorem encL_full {ws:List Int} {k:Nat} (h:ws.length=k):encL (ws.take k)=encL ws:=by rw [List.take_of_length_le (by omega)]
end Go.Proofs.YtbnfdhidgdfbeaaGreat

namespace Go.Proofs.YtbnfdhidgdfbeaaGreat
set_option maxRecDepth 100000
open Go.RowKit Cw

def rZ:Reg:=⟨0,0,0,0⟩
def ovS (old:List Int) (ts:List Int) (new:List Int):List Int:=ts.foldl (fun l t=>(l.set (2 * t.toNat) (old[2 * t.toNat]?.getD 0)).set (2 * t.toNat+1) (old[2 * t.toNat+1]?.getD 0)) new
def zS (ts:List Int) (l:List Int):List Int:=ts.foldl (fun l t=>l.set t.toNat 0) l
def abF (sv:List (List Int)) (ts:List Int) (fs:List (List Int)):List (List Int):=ts.foldl (fun l t=>l.set t.toNat (sv[t.toNat]?.getD [])) fs
theorem ovS_snoc (old ts:List Int) (t:Int) (new:List Int):ovS old (ts++[t]) new=((ovS old ts new).set (2 * t.toNat) (old[2 * t.toNat]?.getD 0)).set (2 * t.toNat+1) (old[2 * t.toNat+1]?.getD 0):=by simp [ovS]
theorem zS_snoc (ts:List Int) (t:Int) (l:List Int):zS (ts++[t]) l=(zS ts l).set t.toNat 0:=by simp [zS]
theorem abF_snoc (sv:List (List Int)) (ts:List Int) (t:Int) (l:List (List Int)):abF sv (ts++[t]) l=(abF sv ts l).set t.toNat (sv[t.toNat]?.getD []):=by simp [abF]
theorem take_snoc {ts:List Int} {k:Nat} (h:k<ts.length):ts.take (k+1)=ts.take k++[ts[k]?.getD 0]:=by rw [List.take_add_one,List.getElem?_eq_getElem h];rfl
theorem ovS_take {old ts new:List Int} {k:Nat} (h:k<ts.length):ovS old (ts.take (k+1)) new=((ovS old (ts.take k) new).set (2 * (ts[k]?.getD 0).toNat) (old[2 * (ts[k]?.getD 0).toNat]?.getD 0)).set (2 * (ts[k]?.getD 0).toNat+1) (old[2 * (ts[k]?.getD 0).toNat+1]?.getD 0):=by rw [take_snoc h,ovS_snoc]
theorem zS_take {ts l:List Int} {k:Nat} (h:k<ts.length):zS (ts.take (k+1)) l=(zS (ts.take k) l).set (ts[k]?.getD 0).toNat 0:=by rw [take_snoc h,zS_snoc]
theorem abF_take {sv:List (List Int)} {ts:List Int} {l:List (List Int)} {k:Nat} (h:k<ts.length):abF sv (ts.take (k+1)) l=(abF sv (ts.take k) l).set (ts[k]?.getD 0).toNat (sv[(ts[k]?.getD 0).toNat]?.getD []):=by rw [take_snoc h,abF_snoc]
theorem ovS_length (old ts:List Int):∀new:List Int,(ovS old ts new).length=new.length:=by
 induction ts with
 | nil=>intro new;rfl
 | cons t ts ih=>intro new;exact (ih _).trans (by simp)
theorem zS_length (ts:List Int):∀l:List Int,(zS ts l).length=l.length:=by
 induction ts with
 | nil=>intro new;rfl
 | cons t ts ih=>intro new;exact (ih _).trans (by simp)
theorem abF_length (sv:List (List Int)) (ts:List Int):∀l:List (List Int),(abF sv ts l).length=l.length:=by
 induction ts with
 | nil=>intro new;rfl
 | cons t ts ih=>intro new;exact (ih _).trans (by simp)
theorem regTo_in {d:Dev} {r:Reg} {k:Nat} {t:Int} (h:t∈regTo d r k):0≤t∧t<k∧inReg d r t=true:=by
 induction k with
 | zero=>simp [regTo] at h
 | succ k ih =>
  rw [regTo,List.mem_append] at h
  rcases h with h|h
  ·have:=ih h;exact ⟨this.1,by omega,this.2.2⟩
  ·split at h
   ·rename_i hr
    rw [List.mem_singleton] at h
    subst h
    exact ⟨by omega,by omega,hr⟩
   ·cases h
theorem regTiles_in {d:Dev} {r:Reg} {j:Nat} (h:j<(regTiles d r).length):0≤(regTiles d r)[j]?.getD 0∧(regTiles d r)[j]?.getD 0<(tiles d:Int):=by
 rw [List.getElem?_eq_getElem h,Option.getD_some]
 have hm:=List.getElem_mem h
 revert hm
 generalize (regTiles d r)[j]=t
 unfold regTiles
 split
 ·intro hm;have:=regTo_in hm;exact ⟨this.1,this.2.1⟩
 ·intro hm;cases hm

/-- All parts of a board are at most M long. -/
def BdB (M:Nat) (b:Bd):Prop:=size2 b.frames≤M∧b.state.length≤M∧size2 b.saved≤M
theorem BdB.ok {M:Nat} {b:Bd} (h:BdB M b) (hM:M≤1099511627776):BdOk b:=⟨Nat.le_trans h.1 hM,Nat.le_trans h.2.1 hM,Nat.le_trans h.2.2 hM⟩
theorem BdB.n {M:Nat} {b:Bd} (h:BdB M b):bdN b≤3 * M:=by
 obtain ⟨h1,h2,h3⟩:=h
 unfold size2 at h1 h3
 unfold bdN
 omega

theorem bk_parts {b:Bd} (h:bkF b=true):framesOk b.dev b.frames=true∧stOk b.dev b.state=true∧(b.phase=0∨b.phase=1∨b.phase=2)∧(b.phase=1→rqF b.dev b.saved b.reg=true)∧(b.phase≠1→b.reg=rZ∧b.saved=[]):=by
 unfold bkF at h
 simp only [Bool.and_eq_true] at h
 obtain ⟨h1,h2,h3⟩:=h
 refine ⟨h1,h2,?_⟩
 by_cases hp:b.phase=0∨b.phase=2
 ·rw [if_pos hp] at h3
  simp only [Bool.and_eq_true,regZ,decide_eq_true_iff] at h3
  obtain ⟨⟨z0,z1,z2,z3⟩,z4⟩:=h3
  refine ⟨by omega,by omega,fun _=>⟨?_,List.eq_nil_of_length_eq_zero z4⟩⟩
  cases hr:b.reg with
  | mk a1 a2 a3 a4=>rw [hr] at z0 z1 z2 z3;cases z0;cases z1;cases z2;cases z3;rfl
 ·rw [if_neg hp] at h3
  simp only [Bool.and_eq_true,decide_eq_true_iff] at h3
  exact ⟨by omega,fun _=>h3.2,by omega⟩
theorem rq_parts {d:Dev} {fs:List (List Int)} {r:Reg} (h:rqF d fs r=true):framesOk d fs=true∧regOk d r=true:=by
 unfold rqF at h
 simp only [Bool.and_eq_true] at h
 exact ⟨h.1,h.2.1⟩
def upO (b:Bd) (t k i:Int):Bool:=bkF b && flipOk b.dev b.frames t k i
def upB (b:Bd) (t k i:Int):Bd:=if bkF b=true then { b with frames:=flipFrame b.dev b.frames t k i } else b
def scN (b:Bd) (s:Int):Int:=if bkF b=true then scrubN b.dev b.frames s else 0
def scB (b:Bd):Bd:=if bkF b=true then (if 0<scrubN b.dev b.frames 2 then ⟨b.dev,scrubF b.dev b.frames,b.state,2,rZ,[]⟩ else { b with frames:=scrubF b.dev b.frames }) else b
def beO (b:Bd) (r:Reg):Bool:=bkF b && (decide (b.phase=0) && rqF b.dev b.frames r)
def beB (b:Bd) (r:Reg):Bd:=if beO b r=true then ⟨b.dev,b.frames,b.state,1,r,b.frames⟩ else b
def wrO (b:Bd) (t:Int) (ws:List Int):Bool:=bkF b && (decide (b.phase=1) && (inR t 0 ((b.frames.length:Int) - 1) && (inReg b.dev b.reg t && wordsOk ws (fwI b.dev) 65535)))
def wrB (b:Bd) (t:Int) (ws:List Int):Bd:=if wrO b t ws=true then { b with frames:=b.frames.set t.toNat (encL ws) } else b
def abO (b:Bd):Bool:=bkF b && decide (b.phase=1)
def rbB (b:Bd):Bd:=⟨b.dev,abF b.saved (regTiles b.dev b.reg) b.frames,b.state,0,rZ,[]⟩
def abB (b:Bd):Bd:=if abO b=true then rbB b else b
theorem abF_len {sv:List (List Int)} (hv:∀j:Nat,(sv[j]?.getD []).length≤11) (ts:List Int):∀{l:List (List Int)},(∀j,j<l.length→(l[j]?.getD []).length≤11)→∀j,j<(abF sv ts l).length→((abF sv ts l)[j]?.getD []).length≤11:=by
 induction ts with
 | nil=>intro l h;exact h
 | cons t ts ih =>
  intro l h
  refine ih (l:=l.set t.toNat (sv[t.toNat]?.getD [])) fun j hj=>?_
  rw [List.length_set] at hj
  rcases Nat.decEq t.toNat j with e|e
  ·rw [List.getElem?_set_ne e];exact h j hj
  ·subst e;rw [List.getElem?_set_self hj];exact hv _
theorem abO_parts {b:Bd} (h:abO b=true):bkF b=true∧b.phase=1:=by
 unfold abO at h
 simpa using h
theorem rbB_bb {M:Nat} (hM:432≤M) {b:Bd} (h:BdB M b) (ho:abO b=true):BdB M (rbB b):=by
 obtain ⟨hb,hp⟩:=abO_parts ho
 obtain ⟨hf,-,-,hr,-⟩:=bk_parts hb
 have hs:=(rq_parts (hr hp)).1
 exact ⟨Nat.le_trans (rows_le (abF_len (frame_len hs) _ (fun j _=>frame_len hf j)) (by show (abF _ _ _).length≤36;rw [abF_length];exact (frames_n hf).2)) hM,h.2.1,show size2 ([]:List (List Int))≤M by simp [size2,sizeTo]⟩
/-- Whether all codewords of a tile are clean. -/
def clnR (f:List Int):Bool:=(List.range f.length).all fun j=>(decW (f[j]?.getD 0)).2==0
def clnF (fs:List (List Int)) (ts:List Int):Bool:=(List.range ts.length).all fun j=>clnR (fs[(ts[j]?.getD 0).toNat]?.getD [])
def coC (b:Bd) (x:Int):Bool:=clnF b.frames (regTiles b.dev b.reg) && decide (fcsum b.dev b.frames (regTiles b.dev b.reg)=x)
def coO (b:Bd) (x:Int):Bool:=abO b && coC b x
def cmB (b:Bd):Bd:=⟨b.dev,b.frames,ovS (startF b.dev b.frames) (regTiles b.dev b.reg) b.state,0,rZ,[]⟩
def coB (b:Bd) (x:Int):Bd:=if abO b=true then (if coC b x=true then cmB b else rbB b) else b
def spO (b:Bd) (ps:List Int):Bool:=bkF b && padsOk b.dev ps
def nxB (b:Bd) (ps:List Int):List Int:=nextF b.dev (tilesOf b.dev b.frames) b.state ps
def ouB (b:Bd) (ps:List Int):List Int:=outF b.dev (tilesOf b.dev b.frames) b.state ps
def spB (b:Bd) (ps:List Int):Bd:=if spO b ps=true then (if b.phase=2 then b else if b.phase=1 then { b with state:=ovS b.state (regTiles b.dev b.reg) (nxB b ps) } else { b with state:=nxB b ps }) else b
def spN (b:Bd) (ps:List Int):List Int:=if spO b ps=true then (if b.phase=2 then List.replicate (tiles b.dev) 0 else if b.phase=1 then zS (regTiles b.dev b.reg) (ouB b ps) else ouB b ps) else []
theorem nxB_len (b:Bd) (ps:List Int):(nxB b ps).length=b.state.length:=nextTo_length _ _ _ _ _
theorem tilesOf_len {d:Dev} {fs:List (List Int)}:(tilesOf d fs).length=fs.length:=by simp [tilesOf]
theorem ouB_len {b:Bd} (h:bkF b=true) (ps:List Int):(ouB b ps).length=tiles b.dev:=by
 unfold ouB outF
 rw [outTo_length,tilesOf_len]
 exact (frames_n (bk_parts h).1).1
end Go.Proofs.YtbnfdhidgdfbeaaGreat
