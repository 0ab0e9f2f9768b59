/- BoardOk: whether a board is valid: the program. -/
import Derived.Test.YtbnfdhidgdfbeaaGreatBrd
import Derived.Test.YtbnfdhidgdfbeaaGreatEmu
import Derived.Test.YtbnfdhidgdfbeaaGreatRq
namespace Go.Proofs.YtbnfdhidgdfbeaaGreat
set_option maxRecDepth 100000
open Go.RowKit

def regZ (r:Reg):Bool:=decide (r.X0=0) && (decide (r.Y0=0) && (decide (r.X1=0) && decide (r.Y1=0)))
def bkF (b:Bd):Bool:=framesOk b.dev b.frames && (stOk b.dev b.state && (if b.phase=0∨b.phase=2 then (regZ b.reg && decide (b.saved.length=0)) else decide (b.phase=1) && rqF b.dev b.saved b.reg))

set_option maxHeartbeats 1000000 in
theorem boardOk_any (b:Bd) (s:Sl3) (w:World) (hA:BoardRd w b s) (hz1:size2 b.frames≤1099511627776) (h2:s.n2≤16777216) (h3:size2 b.saved≤1099511627776) :
  Calls Tryz.prog 11 #[.agg (bdArr b s)] w fun e w'=>e = .returned (.bool (bkF b))∧Below w.heap.size w w':=by
 obtain ⟨d,fs,st,ph,r,sv⟩:=b
 obtain ⟨A1,n1,c1,A2,n2,c2,A3,n3,c3⟩:=s
 have HB0:=Lib.hid (below_new (Below.refl w.heap.size w) (.cells (bdArr ⟨d,fs,st,ph,r,sv⟩ ⟨A1,n1,c1,A2,n2,c2,A3,n3,c3⟩) 31))
 have HI:=Lib.hid hA
 dsimp only at hz1 h2 h3
 clear hA
 go_enter Tryz.func11,Tryz.ntmps11
 go_wp2_with fail
 refine (framesOk_any d A1 n1 c1 fs _ (HI.out.frames.below HB0.out) hz1).mono ?_
 rintro e w1 ⟨rfl,b1⟩
 have hs1:=b1.size
 simp only [World.size_alloc] at hs1
 have D1:=Lib.hid b1
 obtain ⟨hcc,hff⟩:=bcell b1
 clear b1
 cases hf:framesOk d fs with
 | false =>
  have HF:Hid (bkF ⟨d,fs,st,ph,r,sv⟩=false):=by show _=_;unfold bkF;rw [hf];rfl
  clear hf
  go_wp2_with fail
  go_ret
  exact ⟨ret_bool HF.out.symm,below_tr HB0.out D1.out⟩
 | true =>
  have HFO:=Lib.hid hf
  clear hf
  go_wp2_with fail
  refine (emuStateOk_any d A2 n2 c2 st _ (HI.out.state.below (below_tr HB0.out D1.out)) h2).mono ?_
  rintro e w2 ⟨rfl,b2⟩
  have D2:=Lib.hid (below_tr D1.out b2)
  have hs2:=b2.size
  clear b2 hcc hff
  obtain ⟨hcc,hff⟩:=bcell D2.out
  cases hst:stOk d st with
  | false =>
   have HF:Hid (bkF ⟨d,fs,st,ph,r,sv⟩=false):=by show _=_;unfold bkF;rw [hst];simp
   clear hst
   go_wp2_with fail
   go_ret
   exact ⟨ret_bool HF.out.symm,below_tr HB0.out D2.out⟩
  | true =>
   have HF:Hid (bkF ⟨d,fs,st,ph,r,sv⟩=(if ph=0∨ph=2 then (regZ r && decide (sv.length=0)) else decide (ph=1) && rqF d sv r)):=by show _=_;unfold bkF;rw [hst,HFO.out];rfl
   clear hst
   by_cases h1:ph=1
   ·subst h1
    rw [if_neg (by omega)] at HF
    cases hr:regOk d r with
    | false =>
     have HR:Hid (∀w',Calls Tryz.prog 46 #[.agg #[.int .i64 d.W,.int .i64 d.H,.int .i64 d.T,.int .i64 d.R],.agg #[.int .i64 r.X0,.int .i64 r.Y0,.int .i64 r.X1,.int .i64 r.Y1]] w' fun e w''=>e = .returned (.bool false)∧Below w'.heap.size w' w''):=fun w'=>by have h:=regionOk_any d r w';rwa [hr] at h
     have HE:Hid (rqF d sv r=false):=by show _=_;unfold rqF;rw [hr];simp
     clear hr
     go_wp2_with fail
     refine (HR.out _).mono ?_
     rintro e w3 ⟨rfl,b3⟩
     have D3:=Lib.hid (below_tr D2.out b3)
     clear b3 hcc hff
     go_wp2_with fail
     go_ret
     exact ⟨ret_bool (by rw [HF.out,HE.out];rfl),below_tr HB0.out D3.out⟩
    | true =>
     have HR:Hid (∀w',Calls Tryz.prog 46 #[.agg #[.int .i64 d.W,.int .i64 d.H,.int .i64 d.T,.int .i64 d.R],.agg #[.int .i64 r.X0,.int .i64 r.Y0,.int .i64 r.X1,.int .i64 r.Y1]] w' fun e w''=>e = .returned (.bool true)∧Below w'.heap.size w' w''):=fun w'=>by have h:=regionOk_any d r w';rwa [hr] at h
     clear hr
     go_wp2_with fail
     refine (HR.out _).mono ?_
     rintro e w3 ⟨rfl,b3⟩
     have D3:=Lib.hid (below_tr D2.out b3)
     have hs3:=b3.size
     clear b3 hcc hff
     obtain ⟨hcc,hff⟩:=bcell D3.out
     cases hg:framesOk d sv with
     | false =>
      have HG:Hid (∀w',Rows2 w' A3 n3 sv→Calls Tryz.prog 44 #[.agg #[.int .i64 d.W,.int .i64 d.H,.int .i64 d.T,.int .i64 d.R],.slice A3 n3 c3] w' fun e w''=>e = .returned (.bool false)∧Below w'.heap.size w' w''):=fun w' hw=>by have h:=framesOk_any d A3 n3 c3 sv w' hw h3;rwa [hg] at h
      have HE:Hid (rqF d sv r=false):=by show _=_;unfold rqF;rw [hg];rfl
      clear hg
      go_wp2_with fail
      refine (HG.out _ (HI.out.saved.below (below_tr HB0.out D3.out))).mono ?_
      rintro e w4 ⟨rfl,b4⟩
      have D4:=Lib.hid (below_tr D3.out b4)
      clear b4 hcc hff
      go_wp2_with fail
      go_ret
      exact ⟨ret_bool (by rw [HF.out,HE.out];rfl),below_tr HB0.out D4.out⟩
     | true =>
      have HG:Hid (∀w',Rows2 w' A3 n3 sv→Calls Tryz.prog 44 #[.agg #[.int .i64 d.W,.int .i64 d.H,.int .i64 d.T,.int .i64 d.R],.slice A3 n3 c3] w' fun e w''=>e = .returned (.bool true)∧Below w'.heap.size w' w''):=fun w' hw=>by have h:=framesOk_any d A3 n3 c3 sv w' hw h3;rwa [hg] at h
      clear hg
      go_wp2_with fail
      refine (HG.out _ (HI.out.saved.below (below_tr HB0.out D3.out))).mono ?_
      rintro e w4 ⟨rfl,b4⟩
      have D4:=Lib.hid (below_tr D3.out b4)
      have hs4:=b4.size
      clear b4 hcc hff
      obtain ⟨hcc,hff⟩:=bcell D4.out
      go_wp2_with fail
      refine (regionQuiet_any d A3 n3 c3 sv r _ (HI.out.saved.below (below_tr HB0.out D4.out)) h3).mono ?_
      rintro e w5 ⟨rfl,b5⟩
      have D5:=Lib.hid (below_tr D4.out b5)
      clear b5 hcc hff
      go_wp2_with fail
      go_ret
      exact ⟨ret_bool (by rw [HF.out];simp),below_tr HB0.out D5.out⟩
   ·by_cases h2':ph=0∨ph=2
    ·rw [if_pos h2'] at HF
     have hln:sv.length=n3:=HI.out.saved.1
     have HLN:=Lib.hid hln
     clear hln
     obtain ⟨x0,y0,x1,y1⟩:=r
     have HZ:Hid (regZ ⟨x0,y0,x1,y1⟩=(decide (x0=0) && (decide (y0=0) && (decide (x1=0) && decide (y1=0))))):=rfl
     by_cases hz:x0=0∧y0=0∧x1=0∧y1=0
     ·obtain ⟨rfl,rfl,rfl,rfl⟩:=hz
      have HE:Hid (((n3:Int)==0)=decide (n3=0)):=by show _=_;rw [Bool.eq_iff_iff,beq_iff_eq,decide_eq_true_iff];omega
      rcases h2' with rfl|rfl
      ·go_wp2_with fail
       go_ret
       exact ⟨ret_bool (by rw [HF.out,HZ.out,HLN.out,HE.out];simp),below_tr HB0.out D2.out⟩
      ·go_wp2_with fail
       go_ret
       exact ⟨ret_bool (by rw [HF.out,HZ.out,HLN.out,HE.out];simp),below_tr HB0.out D2.out⟩
     ·have HZF:Hid (regZ ⟨x0,y0,x1,y1⟩=false):=by
       rw [HZ.out]
       show _=_
       by_cases a:x0=0
       ·by_cases b:y0=0
        ·by_cases c:x1=0
         ·rw [decide_eq_false (p:=y1=0) (fun e=>hz ⟨a,b,c,e⟩)];simp
         ·rw [decide_eq_false c];simp
        ·rw [decide_eq_false b];simp
       ·rw [decide_eq_false a];simp
      rcases h2' with rfl|rfl
      ·go_wp2_with fail
       all_goals
        go_ret
        exact ⟨ret_bool (by rw [HF.out,HZF.out];rfl),below_tr HB0.out D2.out⟩
      ·go_wp2_with fail
       all_goals
        go_ret
        exact ⟨ret_bool (by rw [HF.out,HZF.out];rfl),below_tr HB0.out D2.out⟩
    ·rw [if_neg h2'] at HF
     have p0:(ph==0)=false:=by rw [beq_eq_false_iff_ne];omega
     have p1:(ph==1)=false:=by rw [beq_eq_false_iff_ne];omega
     have p2:(ph==2)=false:=by rw [beq_eq_false_iff_ne];omega
     have HE:Hid (decide (ph=1)=false):=by show _=_;simp [h1]
     clear h2' h1
     go_wp2_with fail
     go_ret
     exact ⟨ret_bool (by rw [HF.out,HE.out];rfl),below_tr HB0.out D2.out⟩
end Go.Proofs.YtbnfdhidgdfbeaaGreat
