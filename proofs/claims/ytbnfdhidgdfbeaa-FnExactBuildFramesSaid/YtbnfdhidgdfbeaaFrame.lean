/- Frames: which are valid: the program's answer and the reference's are one. -/
import Derived.Test.YtbnfdhidgdfbeaaPads
import Derived.Test.YtbnfdhidgdfbeaaRow2W
namespace Go.Proofs.Ytbnfdhidgdfbeaa
set_option maxRecDepth 100000
open Go.RowKit

def fwI (d:Dev):Int:=(5 * (5+4 * d.T)+67+15) / 16
def allIn (ws:List Int) (most:Int):Bool:=(List.range ws.length).all fun i=>inR (ws[i]?.getD 0) 0 most
theorem allIn_bad {ws:List Int} {most:Int} {k:Nat} (hk:k<ws.length) (h:inR (ws[k]?.getD 0) 0 most=false):allIn ws most=false:=by
 cases hs:allIn ws most with
 | false=>rfl
 | true =>
  simp only [allIn,List.all_eq_true,List.mem_range] at hs
  rw [hs k hk] at h
  cases h
theorem allIn_good {ws:List Int} {most:Int} (h:∀j,j<ws.length→inR (ws[j]?.getD 0) 0 most=true):allIn ws most=true:=by
 simp only [allIn,List.all_eq_true,List.mem_range]
 exact h
theorem allIn_get {ws:List Int} {most:Int} (h:allIn ws most=true) {k:Nat} (hk:k<ws.length):0≤ws[k]?.getD 0∧ws[k]?.getD 0≤most:=by
 simp only [allIn,List.all_eq_true,List.mem_range] at h
 exact inR_iff.1 (h k hk)
def wordsOk (ws:List Int) (count most:Int):Bool:=decide ((ws.length:Int)=count) && allIn ws most
def framesOk (d:Dev) (fs:List (List Int)):Bool:=devOk d && (decide (fs.length=tiles d) && (List.range fs.length).all fun j=>wordsOk (fs[j]?.getD []) (fwI d) 4194303)
theorem framesOk_good {d:Dev} {fs:List (List Int)} (hd:devOk d=true) (hl:fs.length=tiles d) (h:∀j,j<fs.length→wordsOk (fs[j]?.getD []) (fwI d) 4194303=true):framesOk d fs=true:=by
 simp only [framesOk,Bool.and_eq_true,List.all_eq_true,List.mem_range,decide_eq_true_eq]
 exact ⟨hd,hl,h⟩
theorem framesOk_iff {d:Dev} {fs:List (List Int)} (h:framesOk d fs=true):devOk d=true∧fs.length=tiles d∧∀j,j<fs.length→wordsOk (fs[j]?.getD []) (fwI d) 4194303=true:=by
 simp only [framesOk,Bool.and_eq_true,List.all_eq_true,List.mem_range,decide_eq_true_eq] at h
 exact ⟨h.1,h.2.1,h.2.2⟩
theorem fwI_bd {d:Dev} (h:devOk d=true):7≤fwI d∧fwI d≤11:=by
 have:=devOk_bd h
 unfold fwI
 omega

set_option maxHeartbeats 400000 in
theorem muxCount_any (d:Dev) (w:World) (h1:1≤d.T) (h2:d.T≤4) :
  Calls Try.prog 101 #[.agg #[.int .i64 d.W,.int .i64 d.H,.int .i64 d.T,.int .i64 d.R]] w fun e w'=>e = .returned (.int .i64 (5+4 * d.T))∧Below w.heap.size w w':=by
 go_enter Try.func101,Try.ntmps101
 go_wp2_with fail
 go_ret
 exact ⟨rfl,below_new (Below.refl _ _) _⟩
set_option maxHeartbeats 400000 in
theorem frameWords_any (d:Dev) (w:World) (h1:1≤d.T) (h2:d.T≤4) :
  Calls Try.prog 58 #[.agg #[.int .i64 d.W,.int .i64 d.H,.int .i64 d.T,.int .i64 d.R]] w fun e w'=>e = .returned (.int .i64 (fwI d))∧Below w.heap.size w w':=by
 unfold fwI
 go_enter Try.func58,Try.ntmps58
 go_wp2_with fail
 refine (muxCount_any d _ h1 h2).mono ?_
 rintro e w1 ⟨rfl,b1⟩
 go_wp2_with fail
 go_ret
 exact ⟨rfl,below_tr (below_new (Below.refl _ _) _) b1⟩
set_option maxHeartbeats 400000 in
theorem smuxCount_any (d:Dev) (w:World) (hd:devOk d=true) :
  Calls Try.prog 122 #[.agg #[.int .i64 d.W,.int .i64 d.H,.int .i64 d.T,.int .i64 d.R]] w fun e w'=>e = .returned (.int .i64 (5+4 * d.T))∧Below w.heap.size w w':=by
 have hb:=devOk_bd hd
 go_enter Try.func122,Try.ntmps122
 go_wp2_with fail
 refine (sdeviceOk_any d _).mono ?_
 rintro e w1 ⟨rfl,b1⟩
 obtain ⟨hcc,hff⟩:=bcell b1
 go_wp2_with fail
 go_ret
 exact ⟨rfl,below_tr (below_new (Below.refl _ _) _) b1⟩
set_option maxHeartbeats 400000 in
theorem sframeWords_any (d:Dev) (w:World) (hd:devOk d=true) :
  Calls Try.prog 88 #[.agg #[.int .i64 d.W,.int .i64 d.H,.int .i64 d.T,.int .i64 d.R]] w fun e w'=>e = .returned (.int .i64 (fwI d))∧Below w.heap.size w w':=by
 unfold fwI
 have hb:=devOk_bd hd
 go_enter Try.func88,Try.ntmps88
 go_wp2_with fail
 refine (sdeviceOk_any d _).mono ?_
 rintro e w1 ⟨rfl,b1⟩
 obtain ⟨hcc,hff⟩:=bcell b1
 go_wp2_with fail
 refine (smuxCount_any d _ hd).mono ?_
 rintro e w2 ⟨rfl,b2⟩
 go_wp2_with fail
 go_ret
 exact ⟨rfl,below_tr (below_tr (below_new (Below.refl _ _) _) b1) b2⟩

end Go.Proofs.Ytbnfdhidgdfbeaa
