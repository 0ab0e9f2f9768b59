/- Changing what the call owns: a cell, or what lies behind a cell. Plain lemmas. Boards: what they read as, what the call owns of them; the laws' helpers on boards. BoardOk: whether a board is valid: the program. -/
import Derived.Test.YtbnfdhidgdfbeaaGreatCopies
import Derived.Test.YtbnfdhidgdfbeaaGreatEmu
import Derived.Test.YtbnfdhidgdfbeaaGreatRq
import Derived.Test.YtbnfdhidgdfbeaaGreatTileRd
namespace Go.Proofs.YtbnfdhidgdfbeaaGreat
set_option maxRecDepth 100000
open Go.RowKit

/-- Only the blocks F may have changed. -/
structure Only (F:List Nat) (w w':World):Prop where
 os:w'.os=w.os
 tape:w'.tape=w.tape
 output:w'.output=w.output
 size:w.heap.size≤w'.heap.size
 block:∀k,k<w.heap.size→k∉F→w'.heap[k]?=w.heap[k]?
theorem Only.refl (F:List Nat) (w:World):Only F w w:=⟨rfl,rfl,rfl,Nat.le_refl _,fun _ _ _=>rfl⟩
theorem Only.trans {F:List Nat} {a b c:World} (h:Only F a b) (k:Only F b c):Only F a c :=
 ⟨k.os.trans h.os,k.tape.trans h.tape,k.output.trans h.output,Nat.le_trans h.size k.size,fun i hi hn=>(k.block i (Nat.lt_of_lt_of_le hi h.size) hn).trans (h.block i hi hn)⟩
theorem Only.more {F G:List Nat} {a b:World} (h:Only F a b) (hs:∀k∈F,k∈G):Only G a b:=⟨h.os,h.tape,h.output,h.size,fun i hi hn=>h.block i hi fun hf=>hn (hs i hf)⟩
theorem only_set {F:List Nat} {w:World} {p:Addr} (hp:p.block∈F) (v:Value):Only F w (w.setCell p v) :=
 ⟨rfl,rfl,rfl,by simp [World.setCell],fun k _ hn=>Below.heap_setCell _ _ _ _ (by rintro rfl;exact hn hp)⟩
theorem Only.chg {F:List Nat} {lo hi:Nat} {a b:World} (h:Only F a b) (hf:∀k∈F,lo≤k∧k<hi):Chg lo hi a b :=
 ⟨h.os,h.tape,h.output,h.size,fun k hk hne=>h.block k hk fun hm=>by have:=hf k hm;omega⟩

theorem OwnC.child {w:World} {e s n cap j:Nat} {A:Option Addr} {cs:List Cel} {F:List Nat} {c:Cel} (h:OwnC w (.row e s cs) (.slice A n cap) F) (hF:F.Nodup) (hc:cs[j]?=some c) :
  ∃g v Fj,A=some ⟨g,0,none⟩∧g∈F∧w.cell? ⟨g,j,none⟩=some v∧OwnC w c v Fj∧Fj.Nodup∧g∉Fj∧(∀k∈Fj,k∈F) ∧
   ∀(w':World) (c':Cel),OwnC w' c' v Fj→Only Fj w w'→OwnC w' (.row e s (cs.set j c')) (.slice A n cap) F:=by
 have hj:=(List.getElem?_eq_some_iff.1 hc).1
 have hlt:=h.lt
 obtain ⟨g,c0,v,F1,Fj,F2,rfl,e1,hcell,_,rfl,h4,h5,_⟩:=h.cell hj
 rw [hc] at e1
 injection e1 with e1
 subst e1
 rw [List.nodup_cons] at hF
 obtain ⟨hgn,hnd⟩:=hF
 simp only [List.mem_append,not_or] at hgn
 rw [List.nodup_append,List.nodup_append] at hnd
 obtain ⟨n1,⟨n2,n3,n4⟩,n5⟩:=hnd
 refine ⟨g,v,Fj,rfl,by simp,hcell,h4,n2,hgn.2.1,fun k hk=>by simp [hk],fun w' c' hc' ho=>?_⟩
 refine h5 w' c' hc' (ho.block g (hlt g (by simp)) hgn.2.1) (fun k hk=>ho.block k (hlt k (by simp [hk])) fun hj'=>?_) (fun k hk=>ho.block k (hlt k (by simp [hk])) fun hj'=>?_)
 ·exact n5 k hk k (by simp [hj']) rfl
 ·exact n4 k hj' k hk rfl
theorem OwnC.num {w:World} {e s n cap j:Nat} {A:Option Addr} {cs:List Cel} {F:List Nat} {x:Int} (h:OwnC w (.row e s cs) (.slice A n cap) F) (hF:F.Nodup) (hc:cs[j]?=some (.int x)) :
  ∃g,A=some ⟨g,0,none⟩∧g∈F∧w.cell? ⟨g,j,none⟩=some (.int .i64 x)∧w.frozen? ⟨g,j,none⟩=false ∧
   ∀y:Int,OwnC (w.setCell ⟨g,j,none⟩ (.int .i64 y)) (.row e s (cs.set j (.int y))) (.slice A n cap) F:=by
 have hj:=(List.getElem?_eq_some_iff.1 hc).1
 obtain ⟨g,c0,v,F1,Fj,F2,rfl,e1,hcell,hfz,rfl,h4,_,h6⟩:=h.cell hj
 rw [hc] at e1
 injection e1 with e1
 subst e1
 rw [ownC_int] at h4
 obtain ⟨rfl,rfl⟩:=h4
 rw [List.nodup_cons] at hF
 obtain ⟨hgn,_⟩:=hF
 simp only [List.nil_append,List.mem_append,not_or] at hgn
 exact ⟨g,rfl,by simp,hcell,hfz,fun y=>h6 (.int y) (.int .i64 y) [] (ownC_int.2 ⟨rfl,rfl⟩) hgn.1 (by simp) hgn.2⟩

theorem flat4_set {α:Type} {f:α→List Cel} (hf:∀x,(f x).length=4):∀{xs:List α} {k j:Nat} {x y:α} {c:Cel},xs[k]?=some x→j<4→f y=(f x).set j c→(xs.flatMap f).set (k * 4+j) c=(xs.set k y).flatMap f
 | [],k,j,x,y,c,h,hj,hy=>by simp at h
 | a :: l,0,j,x,y,c,h,hj,hy=>by
  simp at h
  subst h
  rw [List.flatMap_cons,Nat.zero_mul,Nat.zero_add,List.set_append,if_pos (by rw [hf];exact hj),List.set_cons_zero,List.flatMap_cons,hy]
 | a :: l,k+1,j,x,y,c,h,hj,hy=>by
  rw [List.flatMap_cons,List.set_append,if_neg (by rw [hf];omega),hf,show (k+1) * 4+j - 4=k * 4+j by omega,flat4_set hf (by simpa using h) hj hy,List.set_cons_succ,List.flatMap_cons]

/-! ### marking tiles -/
end Go.Proofs.YtbnfdhidgdfbeaaGreat

namespace Go.Proofs.YtbnfdhidgdfbeaaGreat
set_option maxRecDepth 100000
open Go.RowKit

structure Bd where
 dev:Dev
 frames:List (List Int)
 state:List Int
 phase:Int
 reg:Reg
 saved:List (List Int)
/-- The three slices of a board's value. -/
structure Sl3 where
 A1:Option Addr
 n1:Nat
 c1:Nat
 A2:Option Addr
 n2:Nat
 c2:Nat
 A3:Option Addr
 n3:Nat
 c3:Nat
abbrev bdArr (b:Bd) (s:Sl3):Array Value:=#[.int .i64 b.dev.W,.int .i64 b.dev.H,.int .i64 b.dev.T,.int .i64 b.dev.R,.slice s.A1 s.n1 s.c1,.slice s.A2 s.n2 s.c2,.int .i64 b.phase,.int .i64 b.reg.X0,.int .i64 b.reg.Y0,.int .i64 b.reg.X1,.int .i64 b.reg.Y1,.slice s.A3 s.n3 s.c3]
structure BoardRd (w:World) (b:Bd) (s:Sl3):Prop where
 frames:Rows2 w s.A1 s.n1 b.frames
 state:Ints w s.A2 s.n2 b.state
 saved:Rows2 w s.A3 s.n3 b.saved
theorem BoardRd.below {w w':World} {b:Bd} {s:Sl3} (h:BoardRd w b s) (hb:Below w.heap.size w w'):BoardRd w' b s:=⟨h.frames.below hb,h.state.below hb,h.saved.below hb⟩
/-- Two ranges of blocks lie apart. -/
def Ap (l1 h1 l2 h2:Nat):Prop:=h1≤l2∨h2≤l1
structure BoardIn (w:World) (b:Bd) (s:Sl3) (lo hi l1 h1 l2 h2 l3 h3:Nat):Prop where
 frames:Own2 l1 h1 w s.A1 s.n1 s.c1 b.frames
 state:Own l2 w s.A2 s.n2 s.c2 b.state
 lies:Lies s.A2 l2 h2
 saved:Own2 l3 h3 w s.A3 s.n3 s.c3 b.saved
 a12:Ap l1 h1 l2 h2
 a13:Ap l1 h1 l3 h3
 a23:Ap l2 h2 l3 h3
 in1:lo≤l1∧h1≤hi
 in2:lo≤l2∧h2≤hi
 in3:lo≤l3∧h3≤hi
def BoardAt (lo hi:Nat) (w:World) (b:Bd) (s:Sl3):Prop:=∃l1 h1 l2 h2 l3 h3,BoardIn w b s lo hi l1 h1 l2 h2 l3 h3
theorem Lies.own {A:Option Addr} {lo hi base:Nat} {w:World} {n c:Nat} {xs:List Int} (l:Lies A lo hi) (_:Own base w A n c xs):Lies A lo hi:=l
theorem BoardAt.rd {lo hi:Nat} {w:World} {b:Bd} {s:Sl3} (h:BoardAt lo hi w b s):BoardRd w b s:=by
 obtain ⟨l1,h1,l2,h2,l3,h3,hb⟩:=h
 exact ⟨hb.frames.rd,hb.state.rd,hb.saved.rd⟩
theorem BoardAt.below {lo hi:Nat} {w w':World} {b:Bd} {s:Sl3} (h:BoardAt lo hi w b s) (hb:Below w.heap.size w w'):BoardAt lo hi w' b s:=by
 obtain ⟨l1,h1,l2,h2,l3,h3,k⟩:=h
 exact ⟨l1,h1,l2,h2,l3,h3,k.frames.below hb,k.state.below hb,k.lies,k.saved.below hb,k.a12,k.a13,k.a23,k.in1,k.in2,k.in3⟩
theorem BoardAt.chg {lo hi lo' hi':Nat} {w w':World} {b:Bd} {s:Sl3} (h:BoardAt lo hi w b s) (hg:Chg lo' hi' w w') (ha:hi≤lo'∨hi'≤lo):BoardAt lo hi w' b s:=by
 obtain ⟨l1,h1,l2,h2,l3,h3,k⟩:=h
 have i1:=k.in1
 have i2:=k.in2
 have i3:=k.in3
 exact ⟨l1,h1,l2,h2,l3,h3,k.frames.chg hg (by omega),k.state.chg hg k.lies (by omega),k.lies,k.saved.chg hg (by omega),k.a12,k.a13,k.a23,k.in1,k.in2,k.in3⟩
theorem BoardAt.widen {lo hi lo' hi':Nat} {w:World} {b:Bd} {s:Sl3} (h:BoardAt lo hi w b s) (e1:lo'≤lo) (e2:hi≤hi'):BoardAt lo' hi' w b s:=by
 obtain ⟨l1,h1,l2,h2,l3,h3,k⟩:=h
 have i1:=k.in1
 have i2:=k.in2
 have i3:=k.in3
 exact ⟨l1,h1,l2,h2,l3,h3,k.frames,k.state,k.lies,k.saved,k.a12,k.a13,k.a23,⟨by omega,by omega⟩,⟨by omega,by omega⟩,⟨by omega,by omega⟩⟩
theorem BoardAt.drewd {lo hi:Nat} {w:World} {b:Bd} {s:Sl3} (h:BoardAt lo hi w b s):BoardAt lo hi w.drew b s:=by
 obtain ⟨l1,h1,l2,h2,l3,h3,k⟩:=h
 exact ⟨l1,h1,l2,h2,l3,h3,k.frames.drewd,k.state.drewd,k.lies,k.saved.drewd,k.a12,k.a13,k.a23,k.in1,k.in2,k.in3⟩
/-- A bound on what a board holds. -/
def BdOk (b:Bd):Prop:=size2 b.frames≤1099511627776∧b.state.length≤1099511627776∧size2 b.saved≤1099511627776
def bdN (b:Bd):Nat:=sizeTo b.frames b.frames.length+b.state.length+sizeTo b.saved b.saved.length
theorem Chg.wide {lo hi lo' hi':Nat} {w w':World} (h:Chg lo hi w w') (a:lo'≤lo) (b:hi≤hi'):Chg lo' hi' w w':=⟨h.os,h.tape,h.output,h.size,fun k hk hn=>h.block k hk (by omega)⟩
end Go.Proofs.YtbnfdhidgdfbeaaGreat

namespace Go.Proofs.YtbnfdhidgdfbeaaGreat
set_option maxRecDepth 100000
open Go.RowKit

def regZ (r:Reg):Bool:=decide (r.X0=0) && (decide (r.Y0=0) && (decide (r.X1=0) && decide (r.Y1=0)))
def bkF (b:Bd):Bool:=framesOk b.dev b.frames && (stOk b.dev b.state && (if b.phase=0∨b.phase=2 then (regZ b.reg && decide (b.saved.length=0)) else decide (b.phase=1) && rqF b.dev b.saved b.reg))

set_option maxHeartbeats 1000000 in
theorem boardOk_any (b:Bd) (s:Sl3) (w:World) (hA:BoardRd w b s) (hz1:size2 b.frames≤1099511627776) (h2:s.n2≤16777216) (h3:size2 b.saved≤1099511627776) :
  Calls Tryz.prog 11 #[.agg (bdArr b s)] w fun e w'=>e = .returned (.bool (bkF b))∧Below w.heap.size w w':=by
 obtain ⟨d,fs,st,ph,r,sv⟩:=b
 obtain ⟨A1,n1,c1,A2,n2,c2,A3,n3,c3⟩:=s
 have HB0:=Lib.hid (below_new (Below.refl w.heap.size w) (.cells (bdArr ⟨d,fs,st,ph,r,sv⟩ ⟨A1,n1,c1,A2,n2,c2,A3,n3,c3⟩) 31))
 have HI:=Lib.hid hA
 dsimp only at hz1 h2 h3
 clear hA
 go_enter Tryz.func11,Tryz.ntmps11
 go_wp2_with fail
 refine (framesOk_any d A1 n1 c1 fs _ (HI.out.frames.below HB0.out) hz1).mono ?_
 rintro e w1 ⟨rfl,b1⟩
 have hs1:=b1.size
 simp only [World.size_alloc] at hs1
 have D1:=Lib.hid b1
 obtain ⟨hcc,hff⟩:=bcell b1
 clear b1
 cases hf:framesOk d fs with
 | false =>
  have HF:Hid (bkF ⟨d,fs,st,ph,r,sv⟩=false):=by show _=_;unfold bkF;rw [hf];rfl
  clear hf
  go_wp2_with fail
  go_ret
  exact ⟨ret_bool HF.out.symm,below_tr HB0.out D1.out⟩
 | true =>
  have HFO:=Lib.hid hf
  clear hf
  go_wp2_with fail
  refine (emuStateOk_any d A2 n2 c2 st _ (HI.out.state.below (below_tr HB0.out D1.out)) h2).mono ?_
  rintro e w2 ⟨rfl,b2⟩
  have D2:=Lib.hid (below_tr D1.out b2)
  have hs2:=b2.size
  clear b2 hcc hff
  obtain ⟨hcc,hff⟩:=bcell D2.out
  cases hst:stOk d st with
  | false =>
   have HF:Hid (bkF ⟨d,fs,st,ph,r,sv⟩=false):=by show _=_;unfold bkF;rw [hst];simp
   clear hst
   go_wp2_with fail
   go_ret
   exact ⟨ret_bool HF.out.symm,below_tr HB0.out D2.out⟩
  | true =>
   have HF:Hid (bkF ⟨d,fs,st,ph,r,sv⟩=(if ph=0∨ph=2 then (regZ r && decide (sv.length=0)) else decide (ph=1) && rqF d sv r)):=by show _=_;unfold bkF;rw [hst,HFO.out];rfl
   clear hst
   by_cases h1:ph=1
   ·subst h1
    rw [if_neg (by omega)] at HF
    cases hr:regOk d r with
    | false =>
     have HR:Hid (∀w',Calls Tryz.prog 46 #[.agg #[.int .i64 d.W,.int .i64 d.H,.int .i64 d.T,.int .i64 d.R],.agg #[.int .i64 r.X0,.int .i64 r.Y0,.int .i64 r.X1,.int .i64 r.Y1]] w' fun e w''=>e = .returned (.bool false)∧Below w'.heap.size w' w''):=fun w'=>by have h:=regionOk_any d r w';rwa [hr] at h
     have HE:Hid (rqF d sv r=false):=by show _=_;unfold rqF;rw [hr];simp
     clear hr
     go_wp2_with fail
     refine (HR.out _).mono ?_
     rintro e w3 ⟨rfl,b3⟩
     have D3:=Lib.hid (below_tr D2.out b3)
     clear b3 hcc hff
     go_wp2_with fail
     go_ret
     exact ⟨ret_bool (by rw [HF.out,HE.out];rfl),below_tr HB0.out D3.out⟩
    | true =>
     have HR:Hid (∀w',Calls Tryz.prog 46 #[.agg #[.int .i64 d.W,.int .i64 d.H,.int .i64 d.T,.int .i64 d.R],.agg #[.int .i64 r.X0,.int .i64 r.Y0,.int .i64 r.X1,.int .i64 r.Y1]] w' fun e w''=>e = .returned (.bool true)∧Below w'.heap.size w' w''):=fun w'=>by have h:=regionOk_any d r w';rwa [hr] at h
     clear hr
     go_wp2_with fail
     refine (HR.out _).mono ?_
     rintro e w3 ⟨rfl,b3⟩
     have D3:=Lib.hid (below_tr D2.out b3)
     have hs3:=b3.size
     clear b3 hcc hff
     obtain ⟨hcc,hff⟩:=bcell D3.out
     cases hg:framesOk d sv with
     | false =>
      have HG:Hid (∀w',Rows2 w' A3 n3 sv→Calls Tryz.prog 44 #[.agg #[.int .i64 d.W,.int .i64 d.H,.int .i64 d.T,.int .i64 d.R],.slice A3 n3 c3] w' fun e w''=>e = .returned (.bool false)∧Below w'.heap.size w' w''):=fun w' hw=>by have h:=framesOk_any d A3 n3 c3 sv w' hw h3;rwa [hg] at h
      have HE:Hid (rqF d sv r=false):=by show _=_;unfold rqF;rw [hg];rfl
      clear hg
      go_wp2_with fail
      refine (HG.out _ (HI.out.saved.below (below_tr HB0.out D3.out))).mono ?_
      rintro e w4 ⟨rfl,b4⟩
      have D4:=Lib.hid (below_tr D3.out b4)
      clear b4 hcc hff
      go_wp2_with fail
      go_ret
      exact ⟨ret_bool (by rw [HF.out,HE.out];rfl),below_tr HB0.out D4.out⟩
     | true =>
      have HG:Hid (∀w',Rows2 w' A3 n3 sv→Calls Tryz.prog 44 #[.agg #[.int .i64 d.W,.int .i64 d.H,.int .i64 d.T,.int .i64 d.R],.slice A3 n3 c3] w' fun e w''=>e = .returned (.bool true)∧Below w'.heap.size w' w''):=fun w' hw=>by have h:=framesOk_any d A3 n3 c3 sv w' hw h3;rwa [hg] at h
      clear hg
      go_wp2_with fail
      refine (HG.out _ (HI.out.saved.below (below_tr HB0.out D3.out))).mono ?_
      rintro e w4 ⟨rfl,b4⟩
      have D4:=Lib.hid (below_tr D3.out b4)
      have hs4:=b4.size
      clear b4 hcc hff
      obtain ⟨hcc,hff⟩:=bcell D4.out
      go_wp2_with fail
      refine (regionQuiet_any d A3 n3 c3 sv r _ (HI.out.saved.below (below_tr HB0.out D4.out)) h3).mono ?_
      rintro e w5 ⟨rfl,b5⟩
      have D5:=Lib.hid (below_tr D4.out b5)
      clear b5 hcc hff
      go_wp2_with fail
      go_ret
      exact ⟨ret_bool (by rw [HF.out];simp),below_tr HB0.out D5.out⟩
   ·by_cases h2':ph=0∨ph=2
    ·rw [if_pos h2'] at HF
     have hln:sv.length=n3:=HI.out.saved.1
     have HLN:=Lib.hid hln
     clear hln
     obtain ⟨x0,y0,x1,y1⟩:=r
     have HZ:Hid (regZ ⟨x0,y0,x1,y1⟩=(decide (x0=0) && (decide (y0=0) && (decide (x1=0) && decide (y1=0))))):=rfl
     by_cases hz:x0=0∧y0=0∧x1=0∧y1=0
     ·obtain ⟨rfl,rfl,rfl,rfl⟩:=hz
      have HE:Hid (((n3:Int)==0)=decide (n3=0)):=by show _=_;rw [Bool.eq_iff_iff,beq_iff_eq,decide_eq_true_iff];omega
      rcases h2' with rfl|rfl
      ·go_wp2_with fail
       go_ret
       exact ⟨ret_bool (by rw [HF.out,HZ.out,HLN.out,HE.out];simp),below_tr HB0.out D2.out⟩
      ·go_wp2_with fail
       go_ret
       exact ⟨ret_bool (by rw [HF.out,HZ.out,HLN.out,HE.out];simp),below_tr HB0.out D2.out⟩
     ·have HZF:Hid (regZ ⟨x0,y0,x1,y1⟩=false):=by
       rw [HZ.out]
       show _=_
       by_cases a:x0=0
       ·by_cases b:y0=0
        ·by_cases c:x1=0
         ·rw [decide_eq_false (p:=y1=0) (fun e=>hz ⟨a,b,c,e⟩)];simp
         ·rw [decide_eq_false c];simp
        ·rw [decide_eq_false b];simp
       ·rw [decide_eq_false a];simp
      rcases h2' with rfl|rfl
      ·go_wp2_with fail
       all_goals
        go_ret
        exact ⟨ret_bool (by rw [HF.out,HZF.out];rfl),below_tr HB0.out D2.out⟩
      ·go_wp2_with fail
       all_goals
        go_ret
        exact ⟨ret_bool (by rw [HF.out,HZF.out];rfl),below_tr HB0.out D2.out⟩
    ·rw [if_neg h2'] at HF
     have p0:(ph==0)=false:=by rw [beq_eq_false_iff_ne];omega
     have p1:(ph==1)=false:=by rw [beq_eq_false_iff_ne];omega
     have p2:(ph==2)=false:=by rw [beq_eq_false_iff_ne];omega
     have HE:Hid (decide (ph=1)=false):=by show _=_;simp [h1]
     clear h2' h1
     go_wp2_with fail
     go_ret
     exact ⟨ret_bool (by rw [HF.out,HE.out];rfl),below_tr HB0.out D2.out⟩
end Go.Proofs.YtbnfdhidgdfbeaaGreat
