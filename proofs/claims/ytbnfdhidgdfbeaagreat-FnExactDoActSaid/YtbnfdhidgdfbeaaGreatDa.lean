/- TilesOf: the tiles of a kind: both. What an act does to a board, and its number. DoAct of the program (printed by mkop.py). -/
import Derived.Test.YtbnfdhidgdfbeaaGreatAbr
import Derived.Test.YtbnfdhidgdfbeaaGreatAcS
import Derived.Test.YtbnfdhidgdfbeaaGreatBeS
import Derived.Test.YtbnfdhidgdfbeaaGreatBitsAt
import Derived.Test.YtbnfdhidgdfbeaaGreatCo
import Derived.Test.YtbnfdhidgdfbeaaGreatEmu
import Derived.Test.YtbnfdhidgdfbeaaGreatOpp
import Derived.Test.YtbnfdhidgdfbeaaGreatRc
import Derived.Test.YtbnfdhidgdfbeaaGreatSc
import Derived.Test.YtbnfdhidgdfbeaaGreatSp
import Derived.Test.YtbnfdhidgdfbeaaGreatUpS
import Derived.Test.YtbnfdhidgdfbeaaGreatValS2
import Derived.Test.YtbnfdhidgdfbeaaGreatWr
namespace Go.Proofs.YtbnfdhidgdfbeaaGreat
set_option maxRecDepth 100000
open Go.RowKit

def tofTo (d:Dev) (kd:Int):Nat→List Int
 | 0=>[]
 | k+1=>tofTo d kd k++if kindOf d (k:Int)=kd then [(k:Int)] else []
def tofF (d:Dev) (kd:Int):List Int:=if devOk d then tofTo d kd (tiles d) else []
theorem tofTo_le (d:Dev) (kd:Int) (k:Nat):(tofTo d kd k).length≤k:=by
 induction k with
 | zero=>simp [tofTo]
 | succ k ih=>unfold tofTo;split <;> simp <;> omega
theorem tofF_le (d:Dev) (kd:Int):(tofF d kd).length≤36:=by
 unfold tofF
 split
 ·rename_i h
  have:=(tiles_eq h).2.2
  have:=tofTo_le d kd (tiles d)
  omega
 ·simp

set_option maxHeartbeats 1000000 in
theorem tilesOf_kd (d:Dev) (kd:Int) (w:World) :
  Calls Tryz.prog 91 #[.agg #[.int .i64 d.W,.int .i64 d.H,.int .i64 d.T,.int .i64 d.R],.int .i64 kd] w fun e w'=>∃A m c,e = .returned (.slice A m c)∧Own w.heap.size w' A m c (tofF d kd)∧Below w.heap.size w w':=by
 have hB0:Below w.heap.size w (w.alloc (.cells #[.int .i64 d.W,.int .i64 d.H,.int .i64 d.T,.int .i64 d.R] 25)):=below_new (Below.refl _ _) _
 go_enter Tryz.func91,Tryz.ntmps91
 go_wp2_with fail
 refine (deviceOk_any d _).mono ?_
 rintro e w1 ⟨rfl,b1⟩
 have hs1:=b1.size
 simp only [World.size_alloc] at hs1
 obtain ⟨hcc,hff⟩:=bcell b1
 have B1:=Lib.hid b1
 clear b1
 cases hd:devOk d with
 | false =>
  have HD:=Lib.hid hd
  clear hd
  go_wp2_with fail
  go_ret
  exact ⟨none,0,0,rfl,by rw [tofF,HD.out];exact Own.nil,below_tr hB0 B1.out⟩
 | true =>
  obtain ⟨hN,hN1,hN2⟩:=tiles_eq hd
  have HD:=Lib.hid hd
  clear hd
  generalize hT:tiles d=N at *
  have HT:=Lib.hid hT
  clear hT
  go_wp2_with fail
  go_loopw [5,6] (fun v i wr=>∃(k:Nat) (A:Option Addr) (m c:Nat),k≤N∧m≤k∧i = .int .i64 k∧v = .slice A m c∧Own ((w.alloc (.cells #[.int .i64 d.W,.int .i64 d.H,.int .i64 d.T,.int .i64 d.R] 25))).heap.size wr A m c (tofTo d kd k)∧Below ((w.alloc (.cells #[.int .i64 d.W,.int .i64 d.H,.int .i64 d.T,.int .i64 d.R] 25))).heap.size (w.alloc (.cells #[.int .i64 d.W,.int .i64 d.H,.int .i64 d.T,.int .i64 d.R] 25)) wr) (fun _ i _=>N - (intOf i).toNat)
  case atStart=>exact ⟨0,none,0,0,Nat.zero_le _,Nat.zero_le _,rfl,rfl,Own.nil,B1.out⟩
  case round =>
   obtain ⟨k,A,m,c,hk,hmk,rfl,rfl,ho,hbe⟩:=hrel
   clear hcc hff
   obtain ⟨hcc,hff⟩:=bcell hbe
   have hsw:=hbe.size
   simp only [World.size_alloc] at hsw
   have HO:=Lib.hid ho
   have HE:=Lib.hid hbe
   clear ho hbe
   by_cases hlt:k<N
   ·go_wp2_with fail
    refine (tileKind_any d k _ HD.out (by omega) (by omega)).mono ?_
    rintro e w3 ⟨rfl,b3⟩
    have O3:=Lib.hid (HO.out.below b3)
    have E3:=Lib.hid (below_tr HE.out b3)
    have s3:=b3.size
    clear b3
    have hs:=tofTo.eq_2 d kd k
    have HS:=Lib.hid hs
    clear hs
    by_cases hin:kindOf d (k:Int)=kd
    ·have hq:(kindOf d (k:Int)==kd)=true:=by simp [hin]
     have HI:=Lib.hid hin
     clear hin hcc hff
     obtain ⟨hcc,hff⟩:=bcell E3.out
     go_wp2_with (at_builtin;refine wpList_push rfl _ _ rfl ((w.alloc (.cells #[.int .i64 d.W,.int .i64 d.H,.int .i64 d.T,.int .i64 d.R] 25))).heap.size A m c (tofTo d kd k) (k:Int) rfl O3.out rfl (by omega) E3.out.size E3.out ?_;rintro g4 cap w4 o4 b4 gr4 hat4)
     go_roundw
     case rel=>exact ⟨k+1,_,_,_,by omega,by omega,by go_num,rfl,by rw [HS.out,if_pos HI.out];exact o4,b4⟩
     case measure=>simp [intOf];omega
    ·have hq:(kindOf d (k:Int)==kd)=false:=by simp [hin]
     have HI:=Lib.hid hin
     clear hin hcc hff
     obtain ⟨hcc,hff⟩:=bcell E3.out
     go_wp2_with fail
     go_roundw
     case rel=>exact ⟨k+1,A,m,c,by omega,by omega,by go_num,rfl,by rw [HS.out,if_neg HI.out];simpa using O3.out,E3.out⟩
     case measure=>simp [intOf];omega
   ·have hkn:k=N:=by omega
    subst hkn
    go_wp2_with fail
    go_ret
    exact ⟨_,_,_,rfl,by rw [tofF,HD.out,if_pos rfl,HT.out];exact HO.out.more hB0.size,below_tr hB0 HE.out⟩
theorem stileKind_is (d:Dev) (t:Int) (w:World) (hd:devOk d=true) (h0:0≤t) (h1:t<(tiles d:Int)) :
  Calls Tryz.prog 71 #[.agg #[.int .i64 d.W,.int .i64 d.H,.int .i64 d.T,.int .i64 d.R],.int .i64 t] w fun e w'=>e = .returned (.int .i64 (kindOf d t))∧Below w.heap.size w w':=by
 have h:=stileKind_any d t w (by have:=tiles_eq hd;omega)
 rw [tileKind,if_pos ⟨hd,h0,by have:=(tiles_eq hd).1;omega⟩] at h
 exact h
set_option maxHeartbeats 1000000 in
theorem stilesOf_kd (d:Dev) (kd:Int) (w:World) :
  Calls Tryz.prog 76 #[.agg #[.int .i64 d.W,.int .i64 d.H,.int .i64 d.T,.int .i64 d.R],.int .i64 kd] w fun e w'=>∃A m c,e = .returned (.slice A m c)∧Own w.heap.size w' A m c (tofF d kd)∧Below w.heap.size w w':=by
 have hB0:Below w.heap.size w (w.alloc (.cells #[.int .i64 d.W,.int .i64 d.H,.int .i64 d.T,.int .i64 d.R] 25)):=below_new (Below.refl _ _) _
 go_enter Tryz.func76,Tryz.ntmps76
 go_wp2_with fail
 refine (sdeviceOk_any d _).mono ?_
 rintro e w1 ⟨rfl,b1⟩
 have hs1:=b1.size
 simp only [World.size_alloc] at hs1
 replace hs1:w.heap.size+2≤w1.heap.size:=by omega
 have O1:=Lib.hid ((Own.newAt (base:=((w.alloc (.cells #[.int .i64 d.W,.int .i64 d.H,.int .i64 d.T,.int .i64 d.R] 25))).heap.size) (w:=(w.alloc (.cells #[.int .i64 d.W,.int .i64 d.H,.int .i64 d.T,.int .i64 d.R] 25))) (g:=w.heap.size+1) (by simp) (by simp)).below b1)
 replace b1:=below_tr (below_new (Below.refl ((w.alloc (.cells #[.int .i64 d.W,.int .i64 d.H,.int .i64 d.T,.int .i64 d.R] 25))).heap.size (w.alloc (.cells #[.int .i64 d.W,.int .i64 d.H,.int .i64 d.T,.int .i64 d.R] 25))) _) b1
 obtain ⟨hcc,hff⟩:=bcell b1
 have B1:=Lib.hid b1
 clear b1
 cases hd:devOk d with
 | false =>
  have HD:=Lib.hid hd
  clear hd
  go_wp2_with fail
  go_ret
  exact ⟨_,0,0,rfl,by rw [tofF,HD.out];exact O1.out.more hB0.size,below_tr hB0 B1.out⟩
 | true =>
  obtain ⟨hN,hN1,hN2⟩:=tiles_eq hd
  have HD:=Lib.hid hd
  clear hd
  generalize hT:tiles d=N at *
  have HT:=Lib.hid hT
  clear hT
  go_wp2_with fail
  go_loopw [5,6] (fun v i wr=>∃(k:Nat) (A:Option Addr) (m c:Nat),k≤N∧m≤k∧i = .int .i64 k∧v = .slice A m c∧Own ((w.alloc (.cells #[.int .i64 d.W,.int .i64 d.H,.int .i64 d.T,.int .i64 d.R] 25))).heap.size wr A m c (tofTo d kd k)∧Below ((w.alloc (.cells #[.int .i64 d.W,.int .i64 d.H,.int .i64 d.T,.int .i64 d.R] 25))).heap.size (w.alloc (.cells #[.int .i64 d.W,.int .i64 d.H,.int .i64 d.T,.int .i64 d.R] 25)) wr) (fun _ i _=>N - (intOf i).toNat)
  case atStart=>exact ⟨0,_,0,0,Nat.zero_le _,Nat.zero_le _,rfl,rfl,O1.out,B1.out⟩
  case round =>
   obtain ⟨k,A,m,c,hk,hmk,rfl,rfl,ho,hbe⟩:=hrel
   clear hcc hff
   obtain ⟨hcc,hff⟩:=bcell hbe
   have hsw:=hbe.size
   simp only [World.size_alloc] at hsw
   have HO:=Lib.hid ho
   have HE:=Lib.hid hbe
   clear ho hbe
   by_cases hlt:k<N
   ·go_wp2_with fail
    refine (stileKind_is d k _ HD.out (by omega) (by rw [HT.out];omega)).mono ?_
    rintro e w3 ⟨rfl,b3⟩
    have O3:=Lib.hid (HO.out.below b3)
    have E3:=Lib.hid (below_tr HE.out b3)
    have s3:=b3.size
    clear b3
    have hs:=tofTo.eq_2 d kd k
    have HS:=Lib.hid hs
    clear hs
    by_cases hin:kindOf d (k:Int)=kd
    ·have hq:(kindOf d (k:Int)==kd)=true:=by simp [hin]
     have HI:=Lib.hid hin
     clear hin hcc hff
     obtain ⟨hcc,hff⟩:=bcell E3.out
     go_wp2_with (at_builtin;refine wpList_push rfl _ _ rfl ((w.alloc (.cells #[.int .i64 d.W,.int .i64 d.H,.int .i64 d.T,.int .i64 d.R] 25))).heap.size A m c (tofTo d kd k) (k:Int) rfl O3.out rfl (by omega) E3.out.size E3.out ?_;rintro g4 cap w4 o4 b4 gr4 hat4)
     go_roundw
     case rel=>exact ⟨k+1,_,_,_,by omega,by omega,by go_num,rfl,by rw [HS.out,if_pos HI.out];exact o4,b4⟩
     case measure=>simp [intOf];omega
    ·have hq:(kindOf d (k:Int)==kd)=false:=by simp [hin]
     have HI:=Lib.hid hin
     clear hin hcc hff
     obtain ⟨hcc,hff⟩:=bcell E3.out
     go_wp2_with fail
     go_roundw
     case rel=>exact ⟨k+1,A,m,c,by omega,by omega,by go_num,rfl,by rw [HS.out,if_neg HI.out];simpa using O3.out,E3.out⟩
     case measure=>simp [intOf];omega
   ·have hkn:k=N:=by omega
    subst hkn
    go_wp2_with fail
    go_ret
    exact ⟨_,_,_,rfl,by rw [tofF,HD.out,if_pos rfl,HT.out];exact HO.out.more hB0.size,below_tr hB0 HE.out⟩
end Go.Proofs.YtbnfdhidgdfbeaaGreat

namespace Go.Proofs.YtbnfdhidgdfbeaaGreat
set_option maxRecDepth 100000
open Go.RowKit

def bitI (c:Bool):Int:=if c=true then 1 else 0
def daP (b:Bd) (x:Ac):List Int:=padsFor b.dev (tofF b.dev 0) x.A
def daB (b:Bd) (x:Ac):Bd :=
 if actOk b x=true then
  (if x.kind=0 then spB b (daP b x) else if x.kind=2 then scB b else if x.kind=1 then upB b x.A x.B x.C else if x.kind=3 then beB b x.reg else if x.kind=4 then wrB b x.A x.words else if x.kind=5 then coB b x.A else abB b)
 else b
def daN (b:Bd) (x:Ac):Int :=
 if actOk b x=true then
  (if x.kind=0 then bitsAt (spN b (daP b x)) (tofF b.dev 0) else if x.kind=2 then scN b 1+1000 * scN b 2 else if x.kind=1 then bitI (upO b x.A x.B x.C) else if x.kind=3 then bitI (beO b x.reg) else if x.kind=4 then bitI (wrO b x.A x.words) else if x.kind=5 then bitI (coO b x.A) else bitI (abO b))
 else -1
theorem daB_bb {M:Nat} (hM:432≤M) {b:Bd} (h:BdB M b) (x:Ac):BdB M (daB b x):=by
 unfold daB
 split
 ·split
  ·exact spB_bb h _
  ·split
   ·exact scB_bb h
   ·split
    ·exact upB_bb h _ _ _
    ·split
     ·exact beB_bb h _
     ·split
      ·exact wrB_bb hM h _ _
      ·split
       ·exact coB_bb hM h _
       ·exact abB_bb hM h
 ·exact h
end Go.Proofs.YtbnfdhidgdfbeaaGreat

namespace Go.Proofs.YtbnfdhidgdfbeaaGreat
set_option maxRecDepth 100000
open Go.RowKit
/-- As RunCut, beside the board a list of numbers. -/
def StepCut (W:World) (b:Bd) (xs:List Int) (p u:Value) (w':World):Prop:=∃(wx:World) (g:Nat) (R:Sl3) (lo hi:Nat) (A:Option Addr) (n c:Nat),p = .pointer (some ⟨g,0,none⟩)∧u = .slice A n c∧BkAt wx g b R∧W.heap.size≤g∧W.heap.size≤lo∧hi≤wx.heap.size∧BoardFp lo hi wx b R∧Ints wx A n xs∧Below W.heap.size W wx∧wx=w'
theorem ints_drew {w:World} {A:Option Addr} {n:Nat} {xs:List Int} (h:Ints w A n xs):Ints w.drew A n xs:=h
theorem StepCut.drew {W w1:World} {b:Bd} {xs:List Int} {p u:Value} (h:StepCut W b xs p u w1):StepCut W b xs p u w1.drew:=by
 obtain ⟨wx,g,R,lo,hi,A,n,c,h1,h2,h3,h4,h6,h7,h8,h9,h10,rfl⟩:=h
 exact ⟨wx.drew,g,R,lo,hi,A,n,c,h1,h2,h3,h4,h6,h7,h8.drewd,ints_drew h9,h10.drew,rfl⟩
theorem StepCut.drews {W w1:World} {b:Bd} {xs:List Int} {p u:Value} (h:StepCut W b xs p u w1):StepCut W b xs p u w1.drew.drew:=h.drew.drew
theorem stepA {W w1:World} {b:Bd} {R:Sl3} {xs:List Int} {lo hi n c base:Nat} {A:Option Addr} (hB:Below W.heap.size W w1) (hF:BoardFp lo hi w1 b R) (hO:Own base w1 A n c xs) (hlo:W.heap.size≤lo) (hhi:hi≤w1.heap.size):StepCut W b xs (.pointer (some ⟨w1.heap.size,0,none⟩)) (.slice A n c) (w1.alloc (.cells (bdArr b R) 31)):=by
 have hb:=below_new (Below.refl w1.heap.size w1) (.cells (bdArr b R) 31)
 exact ⟨_,w1.heap.size,R,lo,hi,A,n,c,rfl,rfl,heap_new _ _,hB.size,hlo,Nat.le_trans hhi hb.size,hF.below hb,hO.ints.below hb,below_new hB _,rfl⟩
theorem stepB {W w0 w1:World} {b b0:Bd} {R R0:Sl3} {xs:List Int} {g hi n c:Nat} {A:Option Addr} (hz:BkAt w0 g b0 R0) (hb:Below w0.heap.size w0 w1) (hF:BoardFp w0.heap.size hi w1 b R) (hO:Own w0.heap.size w1 A n c xs) (hB:Below W.heap.size W w1) (hg:W.heap.size≤g) (hhi:hi≤w1.heap.size) (h0:W.heap.size≤w0.heap.size) :
  StepCut W b xs (.pointer (some ⟨g,0,none⟩)) (.slice A n c) (put12 w1 g b R):=by
 have hgl:=heap_lt0 hz
 obtain ⟨h1,h2,h3,h4⟩:=fin12 (WF:=put12 w1 g b R) rfl (hz.tr hb) hB hg
 exact ⟨_,g,R,w0.heap.size,hi,A,n,c,rfl,rfl,h1,hg,h0,Nat.le_trans hhi h2,hF.chg h4 (.inr (by omega)),(hO.chg h4 (lo:=w0.heap.size) (hi:=w1.heap.size) (fun a ha=>(hO.lt a ha)) (.inr (by omega))).ints,h3,rfl⟩
theorem daEnd {w W6 WE:World} {gr lo hi:Nat} {b' b0:Bd} {R s0:Sl3} (hz:BkAt W6 gr b0 s0) (hB:Below w.heap.size w W6) (hl:w.heap.size≤gr) (hF:BoardFp lo hi W6 b' R) (hg:gr+1≤lo) (hlo:w.heap.size≤lo) (hh:hi≤W6.heap.size) (h:SameH (put12 W6 gr b' R) WE) :
  BkAt WE gr b' R∧BoardFp w.heap.size WE.heap.size WE b' R∧Below w.heap.size w WE:=by
 generalize hWF:put12 W6 gr b' R=WF at h
 obtain ⟨hbk,hsz,hBF,hCF⟩:=fin12 hWF hz hB hl
 have e:=h.heap
 refine ⟨by show WE.heap[gr]?=_;rw [e];exact hbk,?_,h.below hBF⟩
 exact h.fp ((hF.chg hCF (.inr hg)).widen hlo (by rw [e];omega))
theorem act_kind {b:Bd} {x:Ac} (h:actOk b x=true):bkF b=true∧(x.kind=0∨x.kind=1∨x.kind=2∨x.kind=3∨x.kind=4∨x.kind=5∨x.kind=6):=by
 unfold actOk at h
 rw [Bool.and_eq_true,decide_eq_true_eq] at h
 obtain ⟨h1,h2⟩:=h
 unfold acF at h2
 exact ⟨h1,by omega⟩
theorem scN_bd {b:Bd} (h:bkF b=true) (k:Int):0≤scN b k∧scN b k≤400:=by
 obtain ⟨hf,-⟩:=bk_parts h
 have h1:=cnt2To_le hf k b.frames.length
 have h2:=(frames_n hf).2
 unfold scN scrubN
 rw [if_pos h,if_pos hf]
 omega
set_option maxHeartbeats 400000 in
theorem truth_any (c:Bool) (w:World) :
  Calls Tryz.prog 96 #[.bool c] w fun e w'=>e = .returned (.int .i64 (bitI c))∧w=w':=by
 cases c with
 | false =>
  go_enter Tryz.func96,Tryz.ntmps96
  go_wp2_with fail
  go_ret
  exact ⟨rfl,rfl⟩
 | true =>
  go_enter Tryz.func96,Tryz.ntmps96
  go_wp2_with fail
  go_ret
  exact ⟨rfl,rfl⟩
set_option maxHeartbeats 4000000 in
theorem doAct_any (b:Bd) (s:Sl3) (x:Ac) (WA:Option Addr) (wn wc:Nat) (w:World) (hA:BoardRd w b s) (hI:Ints w WA wn x.words) (hz1:size2 b.frames≤1099511627776) (h2:s.n2≤16777216) (h3:size2 b.saved≤1099511627776) (hwn:wn≤1099511627776) :
  Calls Tryz.prog 35 #[.agg (bdArr b s),.agg (acArr x WA wn wc)] w fun e w'=>∃R,e = .returned (.tuple #[.agg (bdArr (daB b x) R),.int .i64 (daN b x)])∧BoardFp w.heap.size w'.heap.size w' (daB b x) R∧Below w.heap.size w w':=by
 have hz:BdOk b:=⟨hz1,by have:=hA.state.1;omega,h3⟩
 have HI:=Lib.hid hA
 have HB:=Lib.hid (below_new (below_new (below_new (Below.refl w.heap.size w) (.cells (bdArr b s) 31)) (.cells (acArr x WA wn wc) 66)) (.cells z12 31))
 have HX:Hid (BkAt (((w.alloc (.cells (bdArr b s) 31)).alloc (.cells (acArr x WA wn wc) 66)).alloc (.cells z12 31)) w.heap.size b s):=heap_al _ (heap_al _ (heap_new _ _))
 have HZ:Hid (BkAt (((w.alloc (.cells (bdArr b s) 31)).alloc (.cells (acArr x WA wn wc) 66)).alloc (.cells z12 31)) (w.heap.size+2) zBd zSl):=heap_newAt (by simp)
 have hsz:w.heap.size+3≤(((w.alloc (.cells (bdArr b s) 31)).alloc (.cells (acArr x WA wn wc) 66)).alloc (.cells z12 31)).heap.size:=by simp
 have HIW:=Lib.hid hI
 clear hI
 have HAc:Hid ((((w.alloc (.cells (bdArr b s) 31)).alloc (.cells (acArr x WA wn wc) 66)).alloc (.cells z12 31)).heap[w.heap.size+1]?=some (.cells (acArr x WA wn wc) 66 (0,0))):=heap_al _ (heap_newAt (by simp))
 clear hA
 go_enter Tryz.func35,Tryz.ntmps35
 go_wp2_with fail
 generalize hW:(((w.alloc (.cells (bdArr b s) 31)).alloc (.cells (acArr x WA wn wc) 66)).alloc (.cells z12 31))=W at *
 clear hW
 refine (pactOk_any b s x WA wn wc _ (HI.out.below HB.out) (HIW.out.below HB.out) hz1 h2 h3 hwn).mono ?_
 rintro e w3 ⟨rfl,b3⟩
 have hs0:=b3.size
 replace HB:=Lib.hid (below_tr HB.out b3)
 replace HX:=Lib.hid (HX.out.tr b3)
 replace HZ:=Lib.hid (HZ.out.tr b3)
 replace HAc:=Lib.hid (heap_tr b3 HAc.out)
 clear b3
 cases hok:actOk b x with
 | false =>
  have HU:Hid (daB b x=b):=by show _=_;unfold daB;rw [hok];rfl
  have HV:Hid (daN b x=-1):=by show _=_;unfold daN;rw [hok];rfl
  clear hok
  obtain ⟨x0,x1,x2,x3,x4,x5,x6,x7,x8,x9,x10,x11⟩:=HX.out.cells
  go_wp2_with fail
  clear x0 x1 x2 x3 x4 x5 x6 x7 x8 x9 x10 x11
  refine (copyBoard_any b s _ (HI.out.below HB.out) hz).mono ?_
  rintro e w5 ⟨R,rfl,a5,b5⟩
  have HF:=Lib.hid a5.fp
  have hs1:=b5.size
  replace HB:=Lib.hid (below_tr HB.out b5)
  replace HX:=Lib.hid (HX.out.tr b5)
  replace HZ:=Lib.hid (HZ.out.tr b5)
  replace HAc:=Lib.hid (heap_tr b5 HAc.out)
  clear a5 b5
  obtain ⟨z0,z1,z2,z3,z4,z5,z6,z7,z8,z9,z10,z11⟩:=HZ.out.cells
  have yz:=HZ.out.soft
  go_wp2_with fail
  clear z0 z1 z2 z3 z4 z5 z6 z7 z8 z9 z10 z11 yz
  generalize hWF:World.setCell _ _ _=WF
  obtain ⟨hbk,hszF,hBF,hCF⟩:=fin12 (W:=w5) (b':=b) (s':=R) hWF (HZ.out) (HB.out) (by omega)
  have hR:BoardFp w.heap.size WF.heap.size WF b R:=((HF.out).chg hCF (.inr (by omega))).widen (by omega) (by omega)
  clear hWF
  refine bodyPost_ret (v := .tuple #[.agg (bdArr b R),.int .i64 (-1)]) (results_cell2 Tryz.results35 rfl hbk Tryz.underlying31 (by kernel_rfl)) rfl ⟨R,by rw [HU.out,HV.out],by rw [HU.out];exact hR,hBF⟩
 | true =>
  obtain ⟨hbk0,hkk⟩:=act_kind hok
  have HOK:=Lib.hid hok
  have HBK:=Lib.hid hbk0
  clear hok hbk0
  obtain ⟨x0,x1,x2,x3,x4,x5,x6,x7,x8,x9,x10,x11⟩:=HX.out.cells
  go_upto_region 4 with fail
  clear x0 x1 x2 x3 x4 x5 x6 x7 x8 x9 x10 x11
  have b2:Below w3.heap.size w3 (w3.alloc (.cells (bdArr b s) 31)):=below_new (Below.refl _ _) _
  have HO:Hid (BkAt (w3.alloc (.cells (bdArr b s) 31)) w3.heap.size b s):=heap_new _ _
  have hsO:w3.heap.size<(w3.alloc (.cells (bdArr b s) 31)).heap.size:=by simp
  replace HB:=Lib.hid (below_tr HB.out b2)
  replace HX:=Lib.hid (HX.out.tr b2)
  replace HZ:=Lib.hid (HZ.out.tr b2)
  replace HAc:=Lib.hid (heap_tr b2 HAc.out)
  generalize hW2:(w3.alloc (.cells (bdArr b s) 31))=W2 at *
  clear hW2 b2
  rcases hkk with hk|hk|hk|hk|hk|hk|hk
  ·have HKK:=Lib.hid hk
   have q0:(x.kind==0)=true:=by rw [hk];rfl
   have q2:(x.kind==2)=false:=by rw [hk];rfl
   have q1:(x.kind==1)=false:=by rw [hk];rfl
   have q3:(x.kind==3)=false:=by rw [hk];rfl
   have q4:(x.kind==4)=false:=by rw [hk];rfl
   have q5:(x.kind==5)=false:=by rw [hk];rfl
   clear hk
   have HU:Hid (daB b x=spB b (daP b x)):=by show _=_;unfold daB;rw [HOK.out];simp [HKK.out]
   have HV:Hid (daN b x=bitsAt (spN b (daP b x)) (tofF b.dev 0)):=by show _=_;unfold daN;rw [HOK.out];simp [HKK.out]
   have HDP:Hid (daP b x=padsFor b.dev (tofF b.dev 0) x.A):=rfl
   obtain ⟨x0,x1,x2,x3,x4,x5,x6,x7,x8,x9,x10,x11⟩:=HX.out.cells
   obtain ⟨a0,a1,a2,a3,a4,a5,a6,a7,a8⟩:=cells9 HAc.out
   go_wp2_with fail
   clear x0 x1 x2 x3 x4 x5 x6 x7 x8 x9 x10 x11
   clear a0 a1 a2 a3 a4 a5 a6 a7 a8
   refine (tilesOf_kd b.dev 0 _).mono ?_
   rintro e w4 ⟨TA,m,tc,rfl,o4,b4⟩
   have hmb:m≤36:=by have h1:=tofF_le b.dev 0;have h2:=o4.len;omega
   have HT:=Lib.hid o4.ints
   have hs2:=b4.size
   replace HB:=Lib.hid (below_tr HB.out b4)
   replace HX:=Lib.hid (HX.out.tr b4)
   replace HZ:=Lib.hid (HZ.out.tr b4)
   replace HAc:=Lib.hid (heap_tr b4 HAc.out)
   replace HO:=Lib.hid (HO.out.tr b4)
   clear b4 o4
   have hpl:(daP b x).length≤36:=padsFor_le _ _ _
   have hnl:=spN_le b (daP b x)
   have HPF:=Lib.hid (fun (w':World) (h:Ints w' TA m (tofF b.dev 0))=>padsFor_any b.dev TA m tc (tofF b.dev 0) x.A w' h (by omega))
   rw [←HDP.out] at HPF
   generalize daP b x=ps at *
   generalize tofF b.dev 0=T0 at *
   obtain ⟨x0,x1,x2,x3,x4,x5,x6,x7,x8,x9,x10,x11⟩:=HX.out.cells
   obtain ⟨a0,a1,a2,a3,a4,a5,a6,a7,a8⟩:=cells9 HAc.out
   go_upto_region 8 with fail
   go_cut [9,10] (fun p u w'=>StepCut w4 (spB b ps) (spN b ps) p u w')
   case first =>
    have hD:=Below.refl w4.heap.size w4
    have hlx:w.heap.size<w4.heap.size:=by omega
    have hla:w.heap.size+1<w4.heap.size:=by omega
    have hdr:w4.heap.size≤w4.drew.heap.size:=Nat.le_refl _
    go_wp2_with fail
    go_region_held3 (fun w'=>Below w4.heap.size w4 w'∧∀b o,b<w4.heap.size→w'.cell? ⟨b,o,none⟩=w4.cell? ⟨b,o,none⟩)
     (first|with_reducible exact ⟨hD,(bcell hD).1⟩|with_reducible exact ⟨hD.drew,(bcell hD.drew).1⟩|(refine ⟨?_,(bcell ?_).1⟩ <;> (repeat (first|with_reducible exact hD|with_reducible exact hD.drew|with_reducible refine below_new ?_ _|with_reducible refine Below.drew ?_|with_reducible refine Below.setCell ?_ (by simp only;omega) _))))
     (first
      | (go_at_call 92;(with_reducible refine (HPF.out _ (HT.out.below (by first|with_reducible exact hD|with_reducible exact hD.drew|with_reducible exact below_new hD _|with_reducible exact (below_new hD _).drew|with_reducible exact below_new hD.drew _|with_reducible exact (below_new hD.drew _).drew))).mono ?_);rintro e wk ⟨PA,pn,pc,rfl,oP,bw⟩;have hpn:pn≤1099511627776:=(by have h1:=oP.len;omega);have HPI:=Lib.hid oP.ints;have hD2:=below_tr (a:=w4) (by first|with_reducible exact hD|with_reducible exact hD.drew|with_reducible exact below_new hD _|with_reducible exact (below_new hD _).drew|with_reducible exact below_new hD.drew _|with_reducible exact (below_new hD.drew _).drew) bw;have hbP:=Lib.hid bw;have hBP:=Below.refl wk.heap.size wk;have hsz:=hD2.size;have hsz2:=bw.size;(try simp only [World.size_drew] at hsz2);(try simp only [World.size_alloc] at hsz2);(try have hlt2:=Nat.lt_of_succ_le hsz2);obtain ⟨hcc,hff⟩:=bcell bw;clear bw oP;replace hD:=hD2)
      | (go_at_call 14;(with_reducible refine (stepBoard_any b s PA pn pc ps _ (HI.out.below (below_tr HB.out (by first|with_reducible exact hD|with_reducible exact hD.drew|with_reducible exact below_new hD _|with_reducible exact (below_new hD _).drew|with_reducible exact below_new hD.drew _|with_reducible exact (below_new hD.drew _).drew))) (HPI.out.below (by first|with_reducible exact hBP|with_reducible exact hBP.drew|with_reducible exact below_new hBP _|with_reducible exact (below_new hBP _).drew|with_reducible exact below_new hBP.drew _|with_reducible exact (below_new hBP.drew _).drew)) hz1 h2 h3 hpn).mono ?_);rintro e wk ⟨R,A,n,c,rfl,md,f,oN,⟨u1,u2,lN⟩,bw⟩;have HFK:=Lib.hid f;have HOK2:=Lib.hid oN;have HBK2:=Lib.hid bw;have hD2:=below_tr (a:=w4) (by first|with_reducible exact hD|with_reducible exact hD.drew|with_reducible exact below_new hD _|with_reducible exact (below_new hD _).drew|with_reducible exact below_new hD.drew _|with_reducible exact (below_new hD.drew _).drew) bw;have hsz:=hD2.size;have hsz2:=bw.size;(try simp only [World.size_drew] at hsz2);(try simp only [World.size_alloc] at hsz2);(try have hlt2:=Nat.lt_of_succ_le hsz2);obtain ⟨hcc,hff⟩:=bcell bw;clear bw f oN lN;replace hD:=hD2))
    all_goals
     go_wp2_with fail
     go_meet
     try simp only [drew_set,drew_alloc]
     first|((with_reducible refine (stepA hD HFK.out HOK2.out ?_ ?_)) <;> first|omega|(simp;omega))|((with_reducible refine StepCut.drew (stepA hD HFK.out HOK2.out ?_ ?_)) <;> first|omega|(simp;omega))|((with_reducible refine StepCut.drews (stepA hD HFK.out HOK2.out ?_ ?_)) <;> first|omega|(simp;omega))|((with_reducible refine (stepB (b0:=zBd) (R0:=zSl) ?_ HBK2.out HFK.out HOK2.out hD ?_ ?_ ?_)) <;> first|omega|(simp;omega)|exact heap_new _ _|exact heap_tr hbP.out (heap_new _ _))|((with_reducible refine StepCut.drew (stepB (b0:=zBd) (R0:=zSl) ?_ HBK2.out HFK.out HOK2.out hD ?_ ?_ ?_)) <;> first|omega|(simp;omega)|exact heap_new _ _|exact heap_tr hbP.out (heap_new _ _))|((with_reducible refine StepCut.drews (stepB (b0:=zBd) (R0:=zSl) ?_ HBK2.out HFK.out HOK2.out hD ?_ ?_ ?_)) <;> first|omega|(simp;omega)|exact heap_new _ _|exact heap_tr hbP.out (heap_new _ _))
   clear x0 x1 x2 x3 x4 x5 x6 x7 x8 x9 x10 x11
   clear a0 a1 a2 a3 a4 a5 a6 a7 a8
   obtain ⟨w5,g5,R,lo5,hi5,A5,n5,c5,rfl,rfl,hbk5,hg5,hlo5,hhi5,hF5,hN5,hD5,rfl⟩:=hcut
   have hs5:=hD5.size
   have hgl5:=heap_lt0 hbk5
   have HF:=Lib.hid hF5
   have HN:=Lib.hid hN5
   have HG:=Lib.hid hbk5
   have hn5:n5≤1000000:=by have h1:=hN5.1;omega
   have hs3:=hD5.size
   replace HB:=Lib.hid (below_tr HB.out hD5)
   replace HX:=Lib.hid (HX.out.tr hD5)
   replace HZ:=Lib.hid (HZ.out.tr hD5)
   replace HAc:=Lib.hid (heap_tr hD5 HAc.out)
   replace HO:=Lib.hid (HO.out.tr hD5)
   replace HT:=Lib.hid (HT.out.below hD5)
   clear hD5 hF5 hN5 hbk5
   generalize spB b ps=B9 at *
   generalize spN b ps=N9 at *
   have HEND:Hid (∀w8:World,Below w5.heap.size w5 w8→∀W0:World,put12 w8 (w.heap.size+2) B9 R=W0→∀WE:World,SameH W0 WE→BkAt WE (w.heap.size+2) B9 R∧BoardFp w.heap.size WE.heap.size WE B9 R∧Below w.heap.size w WE):=fun w8 b8 W0 h0 WE hWE=>by
    have hs8:=b8.size
    exact daEnd (HZ.out.tr b8) (below_tr HB.out b8) (by omega) (HF.out.below b8) (by omega) (by omega) (by omega) (by rw [h0];exact hWE)
   have hr4:(w.heap.size+2)<w5.heap.size:=by omega
   have hD:=Below.refl w5.heap.size w5
   obtain ⟨o0,o1,o2,o3,o4,o5,o6,o7,o8,o9,o10,o11⟩:=HG.out.cells
   obtain ⟨z0,z1,z2,z3,z4,z5,z6,z7,z8,z9,z10,z11⟩:=HZ.out.cells
   have yz:=HZ.out.soft
   have hne5:g5≠(w.heap.size+2):=by omega
   go_wp2_with fail
   go_region_held3 (fun w'=>∀o,w'.cell? ⟨g5,o,none⟩=w5.cell? ⟨g5,o,none⟩)
    (first|with_reducible exact fun o=>(far12 hne5 o).trans ((hD).cell (p:=⟨g5,o,none⟩) hgl5)|with_reducible exact fun o=>(far12 hne5 o).trans ((hD.drew).cell (p:=⟨g5,o,none⟩) hgl5)|with_reducible exact fun o=>(hD).cell (p:=⟨g5,o,none⟩) hgl5|with_reducible exact fun o=>(hD.drew).cell (p:=⟨g5,o,none⟩) hgl5)
    ((go_at_call 93;(with_reducible refine (bitsAt_any A5 n5 c5 N9 TA m tc T0 _ (HN.out.below (by first|with_reducible exact hD|with_reducible exact hD.drew)) (HT.out.below (by first|with_reducible exact hD|with_reducible exact hD.drew)) (by omega) (by omega)).mono ?_);rintro e w8 ⟨rfl,b8⟩;have hD2:=below_tr (a:=w5) (by first|with_reducible exact hD|with_reducible exact hD.drew) b8;clear b8;replace hD:=hD2;clear z0 z1 z2 z3 z4 z5 z6 z7 z8 z9 z10 z11 yz;have HZc:=HZ.out.tr hD;obtain ⟨z0,z1,z2,z3,z4,z5,z6,z7,z8,z9,z10,z11⟩:=HZc.cells;have yz:=HZc.soft;clear HZc))
   all_goals
    clear o0 o1 o2 o3 o4 o5 o6 o7 o8 o9 o10 o11 z0 z1 z2 z3 z4 z5 z6 z7 z8 z9 z10 z11 yz
    go_wp2_with fail
    try simp only [drew_set,drew_alloc]
    generalize hWE:World.setCell _ _ _=WE
    have HE:=HEND.out w8 hD WE hWE
    clear hWE HEND
    refine bodyPost_ret (v := .tuple #[.agg (bdArr B9 R),.int .i64 (bitsAt N9 T0)]) (results_cell2 Tryz.results35 rfl (HE _ ⟨rfl,rfl,rfl,rfl⟩).1 Tryz.underlying31 (by kernel_rfl)) rfl ?_
    exact ⟨R,by rw [HU.out,HV.out],by rw [HU.out];exact (HE _ (by exact ⟨rfl,rfl,rfl,rfl⟩)).2⟩
  ·have HKK:=Lib.hid hk
   have q0:(x.kind==0)=false:=by rw [hk];rfl
   have q2:(x.kind==2)=false:=by rw [hk];rfl
   have q1:(x.kind==1)=true:=by rw [hk];rfl
   have q3:(x.kind==3)=false:=by rw [hk];rfl
   have q4:(x.kind==4)=false:=by rw [hk];rfl
   have q5:(x.kind==5)=false:=by rw [hk];rfl
   clear hk
   have HU:Hid (daB b x=upB b x.A x.B x.C):=by show _=_;unfold daB;rw [HOK.out];simp [HKK.out]
   have HV:Hid (daN b x=bitI (upO b x.A x.B x.C)):=by show _=_;unfold daN;rw [HOK.out];simp [HKK.out]
   obtain ⟨x0,x1,x2,x3,x4,x5,x6,x7,x8,x9,x10,x11⟩:=HX.out.cells
   obtain ⟨a0,a1,a2,a3,a4,a5,a6,a7,a8⟩:=cells9 HAc.out
   go_wp2_with fail
   clear x0 x1 x2 x3 x4 x5 x6 x7 x8 x9 x10 x11
   clear a0 a1 a2 a3 a4 a5 a6 a7 a8
   refine (upsetBit_any b s x.A x.B x.C _ (HI.out.below HB.out) hz1 h2 h3).mono ?_
   rintro e w5 ⟨R,rfl,f5,b5⟩
   have HF:=Lib.hid f5
   have hs2:=b5.size
   replace HB:=Lib.hid (below_tr HB.out b5)
   replace HX:=Lib.hid (HX.out.tr b5)
   replace HZ:=Lib.hid (HZ.out.tr b5)
   replace HAc:=Lib.hid (heap_tr b5 HAc.out)
   replace HO:=Lib.hid (HO.out.tr b5)
   clear f5 b5
   generalize upB b x.A x.B x.C=B9 at *
   generalize upO b x.A x.B x.C=C9 at *
   obtain ⟨o0,o1,o2,o3,o4,o5,o6,o7,o8,o9,o10,o11⟩:=HO.out.cells
   have yo:=HO.out.soft
   go_upto_region 21 with fail
   clear o0 o1 o2 o3 o4 o5 o6 o7 o8 o9 o10 o11 yo
   generalize hW6:World.setCell _ _ _=W6
   obtain ⟨hb6,hs6,hB6,hC6⟩:=fin12 (W:=w5) (b':=B9) (s':=R) hW6 HO.out HB.out (by omega)
   have HB6:=Lib.hid hB6
   have HO6:=Lib.hid hb6
   have HZ6:=Lib.hid (HZ.out.chg hC6 (.inl (by omega)))
   have HF6:=Lib.hid (HF.out.chg hC6 (.inr (by omega)))
   clear hW6 hb6 hB6 hC6
   have HEND:Hid (∀W0:World,put12 W6 (w.heap.size+2) B9 R=W0→∀WE:World,SameH W0 WE→BkAt WE (w.heap.size+2) B9 R∧BoardFp w.heap.size WE.heap.size WE B9 R∧Below w.heap.size w WE):=fun W0 h0 WE hWE=>daEnd HZ6.out HB6.out (by omega) HF6.out (by omega) (by omega) (by omega) (by rw [h0];exact hWE)
   have hr4:(w.heap.size+2)<W6.heap.size:=by omega
   have hr5:w3.heap.size<W6.heap.size:=by omega
   obtain ⟨o0,o1,o2,o3,o4,o5,o6,o7,o8,o9,o10,o11⟩:=HO6.out.cells
   obtain ⟨z0,z1,z2,z3,z4,z5,z6,z7,z8,z9,z10,z11⟩:=HZ6.out.cells
   have yz:=HZ6.out.soft
   go_wp2_with fail
   go_region_with ((go_at_call 96;refine (truth_any _ _).mono ?_;rintro e w' ⟨rfl,rfl⟩))
   all_goals
    clear o0 o1 o2 o3 o4 o5 o6 o7 o8 o9 o10 o11 z0 z1 z2 z3 z4 z5 z6 z7 z8 z9 z10 z11 yz
    go_wp2_with fail
    try simp only [drew_set,drew_alloc]
    generalize hWE:World.setCell _ _ _=WE
    have HE:=HEND.out WE hWE
    clear hWE HEND
    refine bodyPost_ret (v := .tuple #[.agg (bdArr B9 R),.int .i64 (bitI C9)]) (results_cell2 Tryz.results35 rfl (HE _ ⟨rfl,rfl,rfl,rfl⟩).1 Tryz.underlying31 (by kernel_rfl)) rfl ?_
    exact ⟨R,by rw [HU.out,HV.out],by rw [HU.out];exact (HE _ (by exact ⟨rfl,rfl,rfl,rfl⟩)).2⟩
  ·have HKK:=Lib.hid hk
   have q0:(x.kind==0)=false:=by rw [hk];rfl
   have q2:(x.kind==2)=true:=by rw [hk];rfl
   have q1:(x.kind==1)=false:=by rw [hk];rfl
   have q3:(x.kind==3)=false:=by rw [hk];rfl
   have q4:(x.kind==4)=false:=by rw [hk];rfl
   have q5:(x.kind==5)=false:=by rw [hk];rfl
   clear hk
   have HU:Hid (daB b x=scB b):=by show _=_;unfold daB;rw [HOK.out];simp [HKK.out]
   have HV:Hid (daN b x=scN b 1+1000 * scN b 2):=by show _=_;unfold daN;rw [HOK.out];simp [HKK.out]
   obtain ⟨c1a,c1b⟩:=scN_bd HBK.out 1
   obtain ⟨c2a,c2b⟩:=scN_bd HBK.out 2
   obtain ⟨x0,x1,x2,x3,x4,x5,x6,x7,x8,x9,x10,x11⟩:=HX.out.cells
   obtain ⟨a0,a1,a2,a3,a4,a5,a6,a7,a8⟩:=cells9 HAc.out
   go_wp2_with fail
   clear x0 x1 x2 x3 x4 x5 x6 x7 x8 x9 x10 x11
   clear a0 a1 a2 a3 a4 a5 a6 a7 a8
   refine (scrubBoard_any b s _ (HI.out.below HB.out) hz1 h2 h3).mono ?_
   rintro e w5 ⟨R,rfl,f5,b5⟩
   have HF:=Lib.hid f5
   have hs2:=b5.size
   replace HB:=Lib.hid (below_tr HB.out b5)
   replace HX:=Lib.hid (HX.out.tr b5)
   replace HZ:=Lib.hid (HZ.out.tr b5)
   replace HAc:=Lib.hid (heap_tr b5 HAc.out)
   replace HO:=Lib.hid (HO.out.tr b5)
   clear f5 b5
   generalize scB b=B9 at *
   generalize scN b 1=c1 at *
   generalize scN b 2=c2 at *
   go_upto_region 12 with fail
   generalize hW6:World.alloc w5 _=W6
   have hb6:BkAt W6 w5.heap.size B9 R:=by rw [←hW6];exact heap_new _ _
   have hB6:Below w5.heap.size w5 W6:=by rw [←hW6];exact below_new (Below.refl _ _) _
   clear hW6
   have hs6:=hB6.size
   have HO6:=Lib.hid hb6
   have HB6:=Lib.hid (below_tr HB.out hB6)
   have HZ6:=Lib.hid (HZ.out.tr hB6)
   have HF6:=Lib.hid (HF.out.below hB6)
   clear hb6 hB6
   obtain ⟨o0,o1,o2,o3,o4,o5,o6,o7,o8,o9,o10,o11⟩:=HO6.out.cells
   obtain ⟨z0,z1,z2,z3,z4,z5,z6,z7,z8,z9,z10,z11⟩:=HZ6.out.cells
   have yz:=HZ6.out.soft
   go_wp2_with fail
   clear o0 o1 o2 o3 o4 o5 o6 o7 o8 o9 o10 o11 z0 z1 z2 z3 z4 z5 z6 z7 z8 z9 z10 z11 yz
   generalize hWF:World.setCell _ _ _=WF
   obtain ⟨hbk,hszF,hBF,hCF⟩:=fin12 (W:=W6) (b':=B9) (s':=R) hWF (HZ6.out) (HB6.out) (by omega)
   have hR:BoardFp w.heap.size WF.heap.size WF B9 R:=((HF6.out).chg hCF (.inr (by omega))).widen (by omega) (by omega)
   clear hWF
   refine bodyPost_ret (v := .tuple #[.agg (bdArr B9 R),.int .i64 (c1+1000 * c2)]) (results_cell2 Tryz.results35 rfl hbk Tryz.underlying31 (by kernel_rfl)) rfl ⟨R,by rw [HU.out,HV.out],by rw [HU.out];exact hR,hBF⟩
  ·have HKK:=Lib.hid hk
   have q0:(x.kind==0)=false:=by rw [hk];rfl
   have q2:(x.kind==2)=false:=by rw [hk];rfl
   have q1:(x.kind==1)=false:=by rw [hk];rfl
   have q3:(x.kind==3)=true:=by rw [hk];rfl
   have q4:(x.kind==4)=false:=by rw [hk];rfl
   have q5:(x.kind==5)=false:=by rw [hk];rfl
   clear hk
   have HU:Hid (daB b x=beB b x.reg):=by show _=_;unfold daB;rw [HOK.out];simp [HKK.out]
   have HV:Hid (daN b x=bitI (beO b x.reg)):=by show _=_;unfold daN;rw [HOK.out];simp [HKK.out]
   obtain ⟨x0,x1,x2,x3,x4,x5,x6,x7,x8,x9,x10,x11⟩:=HX.out.cells
   obtain ⟨a0,a1,a2,a3,a4,a5,a6,a7,a8⟩:=cells9 HAc.out
   go_wp2_with fail
   clear x0 x1 x2 x3 x4 x5 x6 x7 x8 x9 x10 x11
   clear a0 a1 a2 a3 a4 a5 a6 a7 a8
   refine (beginRegion_any b s x.reg _ (HI.out.below HB.out) hz1 h2 h3).mono ?_
   rintro e w5 ⟨R,rfl,f5,b5⟩
   have HF:=Lib.hid f5
   have hs2:=b5.size
   replace HB:=Lib.hid (below_tr HB.out b5)
   replace HX:=Lib.hid (HX.out.tr b5)
   replace HZ:=Lib.hid (HZ.out.tr b5)
   replace HAc:=Lib.hid (heap_tr b5 HAc.out)
   replace HO:=Lib.hid (HO.out.tr b5)
   clear f5 b5
   generalize beB b x.reg=B9 at *
   generalize beO b x.reg=C9 at *
   obtain ⟨o0,o1,o2,o3,o4,o5,o6,o7,o8,o9,o10,o11⟩:=HO.out.cells
   have yo:=HO.out.soft
   go_upto_region 21 with fail
   clear o0 o1 o2 o3 o4 o5 o6 o7 o8 o9 o10 o11 yo
   generalize hW6:World.setCell _ _ _=W6
   obtain ⟨hb6,hs6,hB6,hC6⟩:=fin12 (W:=w5) (b':=B9) (s':=R) hW6 HO.out HB.out (by omega)
   have HB6:=Lib.hid hB6
   have HO6:=Lib.hid hb6
   have HZ6:=Lib.hid (HZ.out.chg hC6 (.inl (by omega)))
   have HF6:=Lib.hid (HF.out.chg hC6 (.inr (by omega)))
   clear hW6 hb6 hB6 hC6
   have HEND:Hid (∀W0:World,put12 W6 (w.heap.size+2) B9 R=W0→∀WE:World,SameH W0 WE→BkAt WE (w.heap.size+2) B9 R∧BoardFp w.heap.size WE.heap.size WE B9 R∧Below w.heap.size w WE):=fun W0 h0 WE hWE=>daEnd HZ6.out HB6.out (by omega) HF6.out (by omega) (by omega) (by omega) (by rw [h0];exact hWE)
   have hr4:(w.heap.size+2)<W6.heap.size:=by omega
   have hr5:w3.heap.size<W6.heap.size:=by omega
   obtain ⟨o0,o1,o2,o3,o4,o5,o6,o7,o8,o9,o10,o11⟩:=HO6.out.cells
   obtain ⟨z0,z1,z2,z3,z4,z5,z6,z7,z8,z9,z10,z11⟩:=HZ6.out.cells
   have yz:=HZ6.out.soft
   go_wp2_with fail
   go_region_with ((go_at_call 96;refine (truth_any _ _).mono ?_;rintro e w' ⟨rfl,rfl⟩))
   all_goals
    clear o0 o1 o2 o3 o4 o5 o6 o7 o8 o9 o10 o11 z0 z1 z2 z3 z4 z5 z6 z7 z8 z9 z10 z11 yz
    go_wp2_with fail
    try simp only [drew_set,drew_alloc]
    generalize hWE:World.setCell _ _ _=WE
    have HE:=HEND.out WE hWE
    clear hWE HEND
    refine bodyPost_ret (v := .tuple #[.agg (bdArr B9 R),.int .i64 (bitI C9)]) (results_cell2 Tryz.results35 rfl (HE _ ⟨rfl,rfl,rfl,rfl⟩).1 Tryz.underlying31 (by kernel_rfl)) rfl ?_
    exact ⟨R,by rw [HU.out,HV.out],by rw [HU.out];exact (HE _ (by exact ⟨rfl,rfl,rfl,rfl⟩)).2⟩
  ·have HKK:=Lib.hid hk
   have q0:(x.kind==0)=false:=by rw [hk];rfl
   have q2:(x.kind==2)=false:=by rw [hk];rfl
   have q1:(x.kind==1)=false:=by rw [hk];rfl
   have q3:(x.kind==3)=false:=by rw [hk];rfl
   have q4:(x.kind==4)=true:=by rw [hk];rfl
   have q5:(x.kind==5)=false:=by rw [hk];rfl
   clear hk
   have HU:Hid (daB b x=wrB b x.A x.words):=by show _=_;unfold daB;rw [HOK.out];simp [HKK.out]
   have HV:Hid (daN b x=bitI (wrO b x.A x.words)):=by show _=_;unfold daN;rw [HOK.out];simp [HKK.out]
   obtain ⟨x0,x1,x2,x3,x4,x5,x6,x7,x8,x9,x10,x11⟩:=HX.out.cells
   obtain ⟨a0,a1,a2,a3,a4,a5,a6,a7,a8⟩:=cells9 HAc.out
   go_wp2_with fail
   clear x0 x1 x2 x3 x4 x5 x6 x7 x8 x9 x10 x11
   clear a0 a1 a2 a3 a4 a5 a6 a7 a8
   refine (writeRegion_any b s x.A WA wn wc x.words _ (HI.out.below HB.out) (HIW.out.below HB.out) hz1 h2 h3 hwn).mono ?_
   rintro e w5 ⟨R,rfl,f5,b5⟩
   have HF:=Lib.hid f5
   have hs2:=b5.size
   replace HB:=Lib.hid (below_tr HB.out b5)
   replace HX:=Lib.hid (HX.out.tr b5)
   replace HZ:=Lib.hid (HZ.out.tr b5)
   replace HAc:=Lib.hid (heap_tr b5 HAc.out)
   replace HO:=Lib.hid (HO.out.tr b5)
   clear f5 b5
   generalize wrB b x.A x.words=B9 at *
   generalize wrO b x.A x.words=C9 at *
   obtain ⟨o0,o1,o2,o3,o4,o5,o6,o7,o8,o9,o10,o11⟩:=HO.out.cells
   have yo:=HO.out.soft
   go_upto_region 21 with fail
   clear o0 o1 o2 o3 o4 o5 o6 o7 o8 o9 o10 o11 yo
   generalize hW6:World.setCell _ _ _=W6
   obtain ⟨hb6,hs6,hB6,hC6⟩:=fin12 (W:=w5) (b':=B9) (s':=R) hW6 HO.out HB.out (by omega)
   have HB6:=Lib.hid hB6
   have HO6:=Lib.hid hb6
   have HZ6:=Lib.hid (HZ.out.chg hC6 (.inl (by omega)))
   have HF6:=Lib.hid (HF.out.chg hC6 (.inr (by omega)))
   clear hW6 hb6 hB6 hC6
   have HEND:Hid (∀W0:World,put12 W6 (w.heap.size+2) B9 R=W0→∀WE:World,SameH W0 WE→BkAt WE (w.heap.size+2) B9 R∧BoardFp w.heap.size WE.heap.size WE B9 R∧Below w.heap.size w WE):=fun W0 h0 WE hWE=>daEnd HZ6.out HB6.out (by omega) HF6.out (by omega) (by omega) (by omega) (by rw [h0];exact hWE)
   have hr4:(w.heap.size+2)<W6.heap.size:=by omega
   have hr5:w3.heap.size<W6.heap.size:=by omega
   obtain ⟨o0,o1,o2,o3,o4,o5,o6,o7,o8,o9,o10,o11⟩:=HO6.out.cells
   obtain ⟨z0,z1,z2,z3,z4,z5,z6,z7,z8,z9,z10,z11⟩:=HZ6.out.cells
   have yz:=HZ6.out.soft
   go_wp2_with fail
   go_region_with ((go_at_call 96;refine (truth_any _ _).mono ?_;rintro e w' ⟨rfl,rfl⟩))
   all_goals
    clear o0 o1 o2 o3 o4 o5 o6 o7 o8 o9 o10 o11 z0 z1 z2 z3 z4 z5 z6 z7 z8 z9 z10 z11 yz
    go_wp2_with fail
    try simp only [drew_set,drew_alloc]
    generalize hWE:World.setCell _ _ _=WE
    have HE:=HEND.out WE hWE
    clear hWE HEND
    refine bodyPost_ret (v := .tuple #[.agg (bdArr B9 R),.int .i64 (bitI C9)]) (results_cell2 Tryz.results35 rfl (HE _ ⟨rfl,rfl,rfl,rfl⟩).1 Tryz.underlying31 (by kernel_rfl)) rfl ?_
    exact ⟨R,by rw [HU.out,HV.out],by rw [HU.out];exact (HE _ (by exact ⟨rfl,rfl,rfl,rfl⟩)).2⟩
  ·have HKK:=Lib.hid hk
   have q0:(x.kind==0)=false:=by rw [hk];rfl
   have q2:(x.kind==2)=false:=by rw [hk];rfl
   have q1:(x.kind==1)=false:=by rw [hk];rfl
   have q3:(x.kind==3)=false:=by rw [hk];rfl
   have q4:(x.kind==4)=false:=by rw [hk];rfl
   have q5:(x.kind==5)=true:=by rw [hk];rfl
   clear hk
   have HU:Hid (daB b x=coB b x.A):=by show _=_;unfold daB;rw [HOK.out];simp [HKK.out]
   have HV:Hid (daN b x=bitI (coO b x.A)):=by show _=_;unfold daN;rw [HOK.out];simp [HKK.out]
   obtain ⟨x0,x1,x2,x3,x4,x5,x6,x7,x8,x9,x10,x11⟩:=HX.out.cells
   obtain ⟨a0,a1,a2,a3,a4,a5,a6,a7,a8⟩:=cells9 HAc.out
   go_wp2_with fail
   clear x0 x1 x2 x3 x4 x5 x6 x7 x8 x9 x10 x11
   clear a0 a1 a2 a3 a4 a5 a6 a7 a8
   refine (commitRegion_any b s x.A _ (HI.out.below HB.out) hz1 h2 h3).mono ?_
   rintro e w5 ⟨R,rfl,f5,b5⟩
   have HF:=Lib.hid f5
   have hs2:=b5.size
   replace HB:=Lib.hid (below_tr HB.out b5)
   replace HX:=Lib.hid (HX.out.tr b5)
   replace HZ:=Lib.hid (HZ.out.tr b5)
   replace HAc:=Lib.hid (heap_tr b5 HAc.out)
   replace HO:=Lib.hid (HO.out.tr b5)
   clear f5 b5
   generalize coB b x.A=B9 at *
   generalize coO b x.A=C9 at *
   obtain ⟨o0,o1,o2,o3,o4,o5,o6,o7,o8,o9,o10,o11⟩:=HO.out.cells
   have yo:=HO.out.soft
   go_upto_region 21 with fail
   clear o0 o1 o2 o3 o4 o5 o6 o7 o8 o9 o10 o11 yo
   generalize hW6:World.setCell _ _ _=W6
   obtain ⟨hb6,hs6,hB6,hC6⟩:=fin12 (W:=w5) (b':=B9) (s':=R) hW6 HO.out HB.out (by omega)
   have HB6:=Lib.hid hB6
   have HO6:=Lib.hid hb6
   have HZ6:=Lib.hid (HZ.out.chg hC6 (.inl (by omega)))
   have HF6:=Lib.hid (HF.out.chg hC6 (.inr (by omega)))
   clear hW6 hb6 hB6 hC6
   have HEND:Hid (∀W0:World,put12 W6 (w.heap.size+2) B9 R=W0→∀WE:World,SameH W0 WE→BkAt WE (w.heap.size+2) B9 R∧BoardFp w.heap.size WE.heap.size WE B9 R∧Below w.heap.size w WE):=fun W0 h0 WE hWE=>daEnd HZ6.out HB6.out (by omega) HF6.out (by omega) (by omega) (by omega) (by rw [h0];exact hWE)
   have hr4:(w.heap.size+2)<W6.heap.size:=by omega
   have hr5:w3.heap.size<W6.heap.size:=by omega
   obtain ⟨o0,o1,o2,o3,o4,o5,o6,o7,o8,o9,o10,o11⟩:=HO6.out.cells
   obtain ⟨z0,z1,z2,z3,z4,z5,z6,z7,z8,z9,z10,z11⟩:=HZ6.out.cells
   have yz:=HZ6.out.soft
   go_wp2_with fail
   go_region_with ((go_at_call 96;refine (truth_any _ _).mono ?_;rintro e w' ⟨rfl,rfl⟩))
   all_goals
    clear o0 o1 o2 o3 o4 o5 o6 o7 o8 o9 o10 o11 z0 z1 z2 z3 z4 z5 z6 z7 z8 z9 z10 z11 yz
    go_wp2_with fail
    try simp only [drew_set,drew_alloc]
    generalize hWE:World.setCell _ _ _=WE
    have HE:=HEND.out WE hWE
    clear hWE HEND
    refine bodyPost_ret (v := .tuple #[.agg (bdArr B9 R),.int .i64 (bitI C9)]) (results_cell2 Tryz.results35 rfl (HE _ ⟨rfl,rfl,rfl,rfl⟩).1 Tryz.underlying31 (by kernel_rfl)) rfl ?_
    exact ⟨R,by rw [HU.out,HV.out],by rw [HU.out];exact (HE _ (by exact ⟨rfl,rfl,rfl,rfl⟩)).2⟩
  ·have HKK:=Lib.hid hk
   have q0:(x.kind==0)=false:=by rw [hk];rfl
   have q2:(x.kind==2)=false:=by rw [hk];rfl
   have q1:(x.kind==1)=false:=by rw [hk];rfl
   have q3:(x.kind==3)=false:=by rw [hk];rfl
   have q4:(x.kind==4)=false:=by rw [hk];rfl
   have q5:(x.kind==5)=false:=by rw [hk];rfl
   clear hk
   have HU:Hid (daB b x=abB b):=by show _=_;unfold daB;rw [HOK.out];simp [HKK.out]
   have HV:Hid (daN b x=bitI (abO b)):=by show _=_;unfold daN;rw [HOK.out];simp [HKK.out]
   obtain ⟨x0,x1,x2,x3,x4,x5,x6,x7,x8,x9,x10,x11⟩:=HX.out.cells
   obtain ⟨a0,a1,a2,a3,a4,a5,a6,a7,a8⟩:=cells9 HAc.out
   go_wp2_with fail
   clear x0 x1 x2 x3 x4 x5 x6 x7 x8 x9 x10 x11
   clear a0 a1 a2 a3 a4 a5 a6 a7 a8
   refine (abortRegion_any b s _ (HI.out.below HB.out) hz1 h2 h3).mono ?_
   rintro e w5 ⟨R,rfl,f5,b5⟩
   have HF:=Lib.hid f5
   have hs2:=b5.size
   replace HB:=Lib.hid (below_tr HB.out b5)
   replace HX:=Lib.hid (HX.out.tr b5)
   replace HZ:=Lib.hid (HZ.out.tr b5)
   replace HAc:=Lib.hid (heap_tr b5 HAc.out)
   replace HO:=Lib.hid (HO.out.tr b5)
   clear f5 b5
   generalize abB b=B9 at *
   generalize abO b=C9 at *
   obtain ⟨o0,o1,o2,o3,o4,o5,o6,o7,o8,o9,o10,o11⟩:=HO.out.cells
   have yo:=HO.out.soft
   go_upto_region 21 with fail
   clear o0 o1 o2 o3 o4 o5 o6 o7 o8 o9 o10 o11 yo
   generalize hW6:World.setCell _ _ _=W6
   obtain ⟨hb6,hs6,hB6,hC6⟩:=fin12 (W:=w5) (b':=B9) (s':=R) hW6 HO.out HB.out (by omega)
   have HB6:=Lib.hid hB6
   have HO6:=Lib.hid hb6
   have HZ6:=Lib.hid (HZ.out.chg hC6 (.inl (by omega)))
   have HF6:=Lib.hid (HF.out.chg hC6 (.inr (by omega)))
   clear hW6 hb6 hB6 hC6
   have HEND:Hid (∀W0:World,put12 W6 (w.heap.size+2) B9 R=W0→∀WE:World,SameH W0 WE→BkAt WE (w.heap.size+2) B9 R∧BoardFp w.heap.size WE.heap.size WE B9 R∧Below w.heap.size w WE):=fun W0 h0 WE hWE=>daEnd HZ6.out HB6.out (by omega) HF6.out (by omega) (by omega) (by omega) (by rw [h0];exact hWE)
   have hr4:(w.heap.size+2)<W6.heap.size:=by omega
   have hr5:w3.heap.size<W6.heap.size:=by omega
   obtain ⟨o0,o1,o2,o3,o4,o5,o6,o7,o8,o9,o10,o11⟩:=HO6.out.cells
   obtain ⟨z0,z1,z2,z3,z4,z5,z6,z7,z8,z9,z10,z11⟩:=HZ6.out.cells
   have yz:=HZ6.out.soft
   go_wp2_with fail
   go_region_with ((go_at_call 96;refine (truth_any _ _).mono ?_;rintro e w' ⟨rfl,rfl⟩))
   all_goals
    clear o0 o1 o2 o3 o4 o5 o6 o7 o8 o9 o10 o11 z0 z1 z2 z3 z4 z5 z6 z7 z8 z9 z10 z11 yz
    go_wp2_with fail
    try simp only [drew_set,drew_alloc]
    generalize hWE:World.setCell _ _ _=WE
    have HE:=HEND.out WE hWE
    clear hWE HEND
    refine bodyPost_ret (v := .tuple #[.agg (bdArr B9 R),.int .i64 (bitI C9)]) (results_cell2 Tryz.results35 rfl (HE _ ⟨rfl,rfl,rfl,rfl⟩).1 Tryz.underlying31 (by kernel_rfl)) rfl ?_
    exact ⟨R,by rw [HU.out,HV.out],by rw [HU.out];exact (HE _ (by exact ⟨rfl,rfl,rfl,rfl⟩)).2⟩
end Go.Proofs.YtbnfdhidgdfbeaaGreat
