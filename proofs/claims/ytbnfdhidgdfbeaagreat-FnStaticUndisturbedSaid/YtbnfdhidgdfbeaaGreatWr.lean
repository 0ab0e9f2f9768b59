/- WriteRegion of the program (printed by mkop.py). -/
import Derived.Test.YtbnfdhidgdfbeaaGreatAb
import Derived.Test.YtbnfdhidgdfbeaaGreatOpp
namespace Go.Proofs.YtbnfdhidgdfbeaaGreat
set_option maxRecDepth 100000
open Go.RowKit
theorem wordsOk_in16 {ws:List Int} {n:Int} (h:wordsOk ws n 65535=true):(∀j,j<ws.length→0≤ws[j]?.getD 0∧ws[j]?.getD 0≤65535)∧(ws.length:Int)=n:=by
 simp only [wordsOk,Bool.and_eq_true,decide_eq_true_eq] at h
 exact ⟨fun j hj=>allIn_get h.2 hj,h.1⟩
set_option maxHeartbeats 1000000 in
theorem l37List_no (A:Option Addr) (n c:Nat) (ws:List Int) (count most:Int) (w:World) (h:Ints w A n ws) (hn:n≤1099511627776) (hlen:(n:Int)≠count) :
  Calls Tryz.prog 134 #[.slice A n c,.int .i64 count,.int .i64 most] w fun e w'=>e = .returned (.bool false)∧Below w.heap.size w w':=by
 obtain ⟨hx,hA⟩:=h
 have HX:=Lib.hid hx
 have hd:((n:Int)==count)=false:=by simp [hlen]
 have HN:=Lib.hid hlen
 clear hx hlen
 go_enter Tryz.func134,Tryz.ntmps134
 go_wp2_with fail
 go_loop [7] (fun i=>∃k:Nat,k≤n∧i = .int .i64 k) (fun i=>n - (intOf i).toNat)
 case atStart=>exact ⟨0,Nat.zero_le _,rfl⟩
 case round =>
  obtain ⟨k,hk,rfl⟩:=hrel
  by_cases hlt:k<n
  ·obtain ⟨b,o,rfl,hb,hc⟩:=hA (by omega)
   have hck:=hc k hlt
   clear hc
   generalize ws[k]?.getD 0=x at *
   cases hin:inR x 0 most with
   | true =>
    go_wp2_with (go_at_call 119;refine (l01In_any _ _ _ _).mono ?_;rintro e w' ⟨rfl,rfl⟩)
    go_round
    case rel=>exact ⟨k+1,by omega,by go_num⟩
    case measure=>simp [intOf];omega
   | false =>
    go_wp2_with (go_at_call 119;refine (l01In_any _ _ _ _).mono ?_;rintro e w' ⟨rfl,rfl⟩)
    go_ret
    exact ⟨rfl,Below.refl _ _⟩
  ·have hkn:k=n:=by omega
   subst hkn
   go_wp2
   go_ret
   exact ⟨rfl,Below.refl _ _⟩
theorem sl37_any (A:Option Addr) (n c:Nat) (ws:List Int) (count most:Int) (w:World) (h:Ints w A n ws) (hn:n≤1099511627776) :
  Calls Tryz.prog 134 #[.slice A n c,.int .i64 count,.int .i64 most] w fun e w'=>e = .returned (.bool (wordsOk ws count most))∧Below w.heap.size w w':=by
 by_cases hl:(n:Int)=count
 ·rw [show wordsOk ws count most=allIn ws most by unfold wordsOk;rw [h.1,decide_eq_true hl];rfl]
  exact l37List_any A n c ws count most w h hn hl
 ·rw [show wordsOk ws count most=false by unfold wordsOk;rw [h.1,decide_eq_false hl];rfl]
  exact l37List_no A n c ws count most w h hn hl
end Go.Proofs.YtbnfdhidgdfbeaaGreat
