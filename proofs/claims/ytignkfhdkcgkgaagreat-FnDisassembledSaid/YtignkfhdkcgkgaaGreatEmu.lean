/- The kinds of tiles and the states of a device: the program's answers and the reference's are one. -/
import Derived.Test.YtignkfhdkcgkgaaGreatCw
namespace Go.Proofs.YtignkfhdkcgkgaaGreat
set_option maxRecDepth 100000
open Go.RowKit

def kindOf (d:Dev) (t:Int):Int :=
 if t % d.W=0∨t % d.W=d.W - 1∨t / d.W=0∨t / d.W=d.H - 1 then 0 else if t % d.W=d.R then 2 else 1
theorem kindOf_bd (d:Dev) (t:Int):kindOf d t=0∨kindOf d t=1∨kindOf d t=2:=by
 unfold kindOf
 split
 ·simp
 ·split <;> simp
def tileKind (d:Dev) (t:Int):Int:=if devOk d=true∧0≤t∧t<d.W * d.H then kindOf d t else -1

set_option maxHeartbeats 1000000 in
theorem tileKind_any (d:Dev) (t:Int) (w:World) (hd:devOk d=true) (ht:0≤t) (ht':t≤1099511627776) :
  Calls Tryz.prog 73 #[.agg #[.int .i64 d.W,.int .i64 d.H,.int .i64 d.T,.int .i64 d.R],.int .i64 t] w fun e w'=>e = .returned (.int .i64 (kindOf d t))∧Below w.heap.size w w':=by
 obtain ⟨hw1,hw2,hh1,hh2,_⟩:=devOk_bd hd
 have e0:¬d.W=0:=by omega
 have e1:t.tmod d.W=t % d.W:=Int.tmod_eq_emod_of_nonneg ht
 have e2:IntKind.i64.wrap (t.tdiv d.W)=t / d.W:=IntWalk.i64_quo _ _ ⟨ht,by omega,by omega⟩
 have hr0:0≤t % d.W:=Int.emod_nonneg _ e0
 have hr1:t % d.W<d.W:=Int.emod_lt_of_pos _ (by omega)
 clear hd
 go_enter Tryz.func73,Tryz.ntmps73
 go_wp2_with fail
 go_quiet (fail)
 clear e1 e2
 go_wp2_with fail
 all_goals (go_ret;exact ⟨ret_int (by (try simp only [beq_iff_eq,beq_eq_false_iff_ne,ne_eq] at *);first|(rw [kindOf,if_pos (by omega)])|(rw [kindOf,if_neg (by omega),if_pos (by omega)])|(rw [kindOf,if_neg (by omega),if_neg (by omega)])),below_drewN (below_new (Below.refl _ _) _) _⟩)

set_option maxHeartbeats 1000000 in
theorem stileKind_any (d:Dev) (t:Int) (w:World) (ht':t≤1099511627776) :
  Calls Tryz.prog 68 #[.agg #[.int .i64 d.W,.int .i64 d.H,.int .i64 d.T,.int .i64 d.R],.int .i64 t] w fun e w'=>e = .returned (.int .i64 (tileKind d t))∧Below w.heap.size w w':=by
 go_enter Tryz.func68,Tryz.ntmps68
 go_wp2_with fail
 refine (sdeviceOk_any d _).mono ?_
 rintro e w1 ⟨rfl,b1⟩
 obtain ⟨hcc,hff⟩:=bcell b1
 have B1:=Lib.hid (below_tr (below_new (Below.refl _ _) _) b1)
 clear b1
 cases hd:devOk d with
 | false =>
  have HD:=Lib.hid hd
  clear hd
  go_wp2_with fail
  go_ret
  exact ⟨ret_int (by rw [tileKind,if_neg (by rw [HD.out];simp)]),B1.out⟩
 | true =>
  obtain ⟨hN,hN1,hN2⟩:=tiles_eq hd
  obtain ⟨hw1,hw2,hh1,hh2,_⟩:=devOk_bd hd
  have HD:=Lib.hid hd
  have HN:=Lib.hid hN
  clear hd
  by_cases h0:t<0
  ·go_wp2_with fail
   go_ret
   exact ⟨ret_int (by rw [tileKind,if_neg (by omega)]),B1.out⟩
  ·by_cases h1:t≥(tiles d:Int)
   ·go_wp2_with fail
    go_ret
    exact ⟨ret_int (by rw [tileKind,if_neg (by rw [HN.out];omega)]),B1.out⟩
   ·have e0:¬d.W=0:=by omega
    have hr0:0≤t % d.W:=Int.emod_nonneg _ e0
    have hr1:t % d.W<d.W:=Int.emod_lt_of_pos _ (by omega)
    have hk:tileKind d t=kindOf d t:=by rw [tileKind,if_pos ⟨HD.out,by omega,by rw [HN.out];omega⟩]
    have HK:=Lib.hid hk
    clear hk
    go_wp2_with fail
    all_goals (go_ret;exact ⟨ret_int (by rw [HK.out];(try simp only [beq_iff_eq,beq_eq_false_iff_ne,ne_eq] at *);first|(rw [kindOf,if_pos (by omega)])|(rw [kindOf,if_neg (by omega),if_pos (by omega)])|(rw [kindOf,if_neg (by omega),if_neg (by omega)])),B1.out⟩)

theorem tileKind_in {d:Dev} {t:Int} (hd:devOk d=true) (h0:0≤t) (h1:t<d.W * d.H):tileKind d t=kindOf d t:=by rw [tileKind,if_pos ⟨hd,h0,h1⟩]
def mostOf (d:Dev) (i:Nat):Int:=if kindOf d ((i / 2:Nat):Int)=1 then 1 else if kindOf d ((i / 2:Nat):Int)=2∧i % 2=0 then 31 else 0
def stOk (d:Dev) (st:List Int):Bool:=devOk d && (decide (st.length=2 * tiles d) && (List.range st.length).all fun i=>inR (st[i]?.getD 0) 0 (mostOf d i))
theorem stOk_good {d:Dev} {st:List Int} (hd:devOk d=true) (hl:st.length=2 * tiles d) (h:∀j,j<st.length→inR (st[j]?.getD 0) 0 (mostOf d j)=true):stOk d st=true:=by
 simp only [stOk,Bool.and_eq_true,List.all_eq_true,List.mem_range,decide_eq_true_eq]
 exact ⟨hd,hl,h⟩
end Go.Proofs.YtignkfhdkcgkgaaGreat
