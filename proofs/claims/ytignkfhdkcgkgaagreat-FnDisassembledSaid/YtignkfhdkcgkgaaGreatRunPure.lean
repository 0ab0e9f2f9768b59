/- Undetermined: how many nodes have no value: the program. Undetermined: how many nodes have no value: the reference. EmuValues: the values of all nodes: which arguments are valid; the pads' check of both. A step of the emulator: the next state and the outputs as lists. EmuStep: the next state and the outputs, or nothing. EmuRun: the outputs of all cycles as lists; states stay valid. -/
import Derived.Deep.CutBlock
import Derived.Deep.CutRange
import Derived.Deep.DeepCutAuto
import Derived.Test.YtignkfhdkcgkgaaGreatStartS
import Derived.Test.YtignkfhdkcgkgaaGreatVal
import Derived.Test.YtignkfhdkcgkgaaGreatValS
import Derived.Test.YtignkfhdkcgkgaaGreatValS2
namespace Go.Proofs.YtignkfhdkcgkgaaGreat
set_option maxRecDepth 100000
open Go.RowKit

end Go.Proofs.YtignkfhdkcgkgaaGreat

namespace Go.Proofs.YtignkfhdkcgkgaaGreat
set_option maxRecDepth 100000
open Go.RowKit

theorem startTo_get {d:Dev} {ts:List Tile} {m k:Nat} (h:k<m) {e:Nat} (he:e<2):(startTo d ts m)[2 * k+e]?.getD 0=(startOf d k (ts[k]?.getD Tile.zero))[e]?.getD 0:=by
 induction m with
 | zero=>omega
 | succ m ih =>
  rw [startTo]
  rcases Nat.lt_or_ge k m with hk|hk
  ·rw [List.getElem?_append_left (by rw [startTo_length];omega)]
   exact ih hk
  ·have:k=m:=by omega
   subst this
   rw [List.getElem?_append_right (by rw [startTo_length];omega),startTo_length,show 2 * k+e - 2 * k=e by omega]
theorem own_low {a b w:World} {A:Option Addr} {n c:Nat} {xs:List Int} (h:Below a.heap.size a b) (o:Own b.heap.size w A n c xs):Own a.heap.size w A n c xs:=o.more h.size

end Go.Proofs.YtignkfhdkcgkgaaGreat

namespace Go.Proofs.YtignkfhdkcgkgaaGreat
set_option maxRecDepth 100000
open Go.RowKit

def padsOk (d:Dev) (ps:List Int):Bool:=wordsOk ps (d.W * d.H) 1
theorem allIn_any {ws:List Int} {most:Int} (h:allIn ws most=true) (hm:0≤most) (k:Nat):0≤ws[k]?.getD 0∧ws[k]?.getD 0≤most:=by
 rcases Nat.lt_or_ge k ws.length with hk|hk
 ·exact allIn_get h hk
 ·rw [List.getElem?_eq_none hk];exact ⟨Int.le_refl _,hm⟩
theorem padsOk_len {d:Dev} {ps:List Int} (h:padsOk d ps=true):(ps.length:Int)=d.W * d.H∧allIn ps 1=true:=by
 unfold padsOk wordsOk at h
 rw [Bool.and_eq_true,decide_eq_true_eq] at h
 exact h
theorem stOk_len {d:Dev} {st:List Int} (h:stOk d st=true):st.length=2 * tiles d:=by
 simp only [stOk,Bool.and_eq_true,decide_eq_true_eq] at h
 exact h.2.1
theorem mostOf_pos (d:Dev) (i:Nat):0≤mostOf d i:=by unfold mostOf;split <;> (try split) <;> omega
theorem stOk_any {d:Dev} {st:List Int} (h:stOk d st=true) (i:Nat):0≤st[i]?.getD 0∧st[i]?.getD 0≤mostOf d i:=by
 rcases Nat.lt_or_ge i st.length with hk|hk
 ·simp only [stOk,Bool.and_eq_true,List.all_eq_true,List.mem_range] at h
  exact inR_iff.1 (h.2.2 i hk)
 ·rw [List.getElem?_eq_none hk];exact ⟨Int.le_refl _,mostOf_pos d i⟩
theorem stPads_ok {d:Dev} {ts:List Tile} {st ps:List Int} (hs:stOk d st=true) (hp:padsOk d ps=true):StPads d ts st ps:=by
 refine ⟨fun t _ _=>allIn_any (padsOk_len hp).2 (by omega) _,fun t e ht hk h0 h1=>?_,fun t ht hk=>?_⟩
 ·have ht0:=(tileIn_iff.1 ht).2.1
  have h:=stOk_any hs (2 * t+e).toNat
  unfold nv
  have hx:(((2 * t+e).toNat / 2:Nat):Int)=t:=by omega
  rw [mostOf,hx,if_pos hk] at h
  exact h
 ·have ht0:=(tileIn_iff.1 ht).2.1
  have h:=stOk_any hs (2 * t).toNat
  unfold nv
  have hx:(((2 * t).toNat / 2:Nat):Int)=t:=by omega
  rw [mostOf,hx,if_neg (by omega),if_pos ⟨hk,by omega⟩] at h
  exact h
end Go.Proofs.YtignkfhdkcgkgaaGreat

namespace Go.Proofs.YtignkfhdkcgkgaaGreat
set_option maxRecDepth 100000
open Go.RowKit

def mx (x:Int):Int:=if 0<x then x else 0
def inTo (d:Dev) (vs:List Int) (t:Int):Nat→Nat
 | 0=>0
 | k+1=>inTo d vs t k+(mx (nv vs (t * perT d+(k:Int)))).toNat * 2 ^ k
theorem mx_in {vs:List Int} (h:In3 vs) (i:Int):0≤mx (nv vs i)∧mx (nv vs i)≤1:=by
 have:=in3_nv h i
 unfold mx;split <;> omega
theorem inTo_lt {d:Dev} {vs:List Int} (h:In3 vs) (t:Int) (k:Nat):inTo d vs t k<2 ^ k:=by
 induction k with
 | zero=>simp [inTo]
 | succ k ih =>
  have hm:=mx_in h (t * perT d+(k:Int))
  rw [inTo,Nat.pow_succ]
  have h2:(mx (nv vs (t * perT d+(k:Int)))).toNat * 2 ^ k≤1 * 2 ^ k:=Nat.mul_le_mul_right _ (by omega)
  omega
def flopSet (d:Dev) (ts:List Tile) (vs:List Int) (k:Nat) (l:List Int) (e:Nat):List Int :=
 if (leAt ts (k:Int) (e:Int)).flop=1 then l.set (2 * k+e) (mx (lutF d vs (k:Int) (leAt ts (k:Int) (e:Int)))) else l
def flopTo (d:Dev) (ts:List Tile) (vs:List Int) (k:Nat) (l:List Int):Nat→List Int
 | 0=>l
 | e+1=>flopSet d ts vs k (flopTo d ts vs k l e) e
def nx1 (d:Dev) (ts:List Tile) (st vs:List Int) (k:Nat) (l:List Int):List Int :=
 if kindOf d (k:Int)=1 then flopTo d ts vs k l 2
 else if kindOf d (k:Int)=2 then l.set (2 * k) ((ramNext (st[2 * k]?.getD 0).toNat (inTo d vs (k:Int) 4):Nat):Int) else l
def nextTo (d:Dev) (ts:List Tile) (st vs:List Int):Nat→List Int
 | 0=>st
 | k+1=>nx1 d ts st vs k (nextTo d ts st vs k)
def ou1 (d:Dev) (ts:List Tile) (vs:List Int) (k:Nat) (l:List Int):List Int :=
 if kindOf d (k:Int)=0∧(ts[k]?.getD Tile.zero).pad=2 then l.set k (mx (nv vs ((k:Int) * perT d))) else l
def outTo (d:Dev) (ts:List Tile) (vs:List Int) (m:Nat):Nat→List Int
 | 0=>List.replicate m 0
 | k+1=>ou1 d ts vs k (outTo d ts vs m k)
theorem flopSet_length (d:Dev) (ts:List Tile) (vs:List Int) (k:Nat) (l:List Int) (e:Nat):(flopSet d ts vs k l e).length=l.length:=by unfold flopSet;split <;> simp
theorem flopTo_length (d:Dev) (ts:List Tile) (vs:List Int) (k:Nat) (l:List Int) (e:Nat):(flopTo d ts vs k l e).length=l.length:=by
 induction e with
 | zero=>rfl
 | succ e ih=>rw [flopTo,flopSet_length,ih]
theorem nextTo_length (d:Dev) (ts:List Tile) (st vs:List Int) (k:Nat):(nextTo d ts st vs k).length=st.length:=by
 induction k with
 | zero=>rfl
 | succ k ih=>rw [nextTo,nx1];split <;> (try split) <;> simp [flopTo_length,ih]
theorem outTo_length (d:Dev) (ts:List Tile) (vs:List Int) (m k:Nat):(outTo d ts vs m k).length=m:=by
 induction k with
 | zero=>simp [outTo]
 | succ k ih=>rw [outTo,ou1];split <;> simp [ih]
def nextF (d:Dev) (ts:List Tile) (st ps:List Int):List Int:=nextTo d ts st (valsF d ts st ps) ts.length
def outF (d:Dev) (ts:List Tile) (st ps:List Int):List Int:=outTo d ts (valsF d ts st ps) ts.length ts.length
theorem valsF_in3 {d:Dev} {ts:List Tile} {st ps:List Int} (h:StPads d ts st ps):In3 (valsF d ts st ps):=itV_in h _ _
end Go.Proofs.YtignkfhdkcgkgaaGreat

namespace Go.Proofs.YtignkfhdkcgkgaaGreat
set_option maxRecDepth 100000
open Go.RowKit

/-- Two rows of the call's own that lie apart. -/
def Apart (lo hi:Nat) (A1 A2:Option Addr):Prop:=∃mid,lo≤mid∧mid≤hi∧Lies A1 lo mid∧Lies A2 mid hi
theorem Apart.nil {lo hi:Nat} (h:lo≤hi):Apart lo hi none none:=⟨lo,Nat.le_refl _,h,by rintro a ⟨⟩,by rintro a ⟨⟩⟩
theorem Apart.more {lo lo' hi hi':Nat} {A1 A2:Option Addr} (h:Apart lo hi A1 A2) (h1:lo'≤lo) (h2:hi≤hi'):Apart lo' hi' A1 A2:=by
 obtain ⟨mid,a,b,c,e⟩:=h
 exact ⟨mid,by omega,by omega,fun x hx=>⟨by have:=(c x hx).1;omega,(c x hx).2⟩,fun x hx=>⟨(e x hx).1,by have:=(e x hx).2;omega⟩⟩
end Go.Proofs.YtignkfhdkcgkgaaGreat

namespace Go.Proofs.YtignkfhdkcgkgaaGreat
set_option maxRecDepth 100000
open Go.RowKit

theorem stOk_mk {d:Dev} {st:List Int} (hd:devOk d=true) (hl:st.length=2 * tiles d) (h:∀i:Nat,0≤st[i]?.getD 0∧st[i]?.getD 0≤mostOf d i):stOk d st=true:=stOk_good hd hl fun j _=>inR_iff.2 (h j)
theorem lut01 (d:Dev) (vs:List Int) (t:Int) (e:Le):0≤mx (lutF d vs t e)∧mx (lutF d vs t e)≤1:=by
 have:=lutF_in d vs t e
 unfold mx;split <;> omega
theorem getD_set {l:List Int} {i j:Nat} {v:Int}:(l.set i v)[j]?.getD 0=if i=j∧i<l.length then v else l[j]?.getD 0:=by
 by_cases h:i=j
 ·subst h
  by_cases h2:i<l.length
  ·rw [if_pos ⟨rfl,h2⟩];simp [h2]
  ·rw [if_neg (fun h=>h2 h.2),List.set_eq_of_length_le (by omega)]
 ·rw [if_neg (fun h2=>h h2.1),List.getElem?_set_ne h]
def InSt (d:Dev) (l:List Int):Prop:=∀i:Nat,0≤l[i]?.getD 0∧l[i]?.getD 0≤mostOf d i
theorem inSt_set {d:Dev} {l:List Int} {i:Nat} {v:Int} (h:InSt d l) (hv:0≤v∧v≤mostOf d i):InSt d (l.set i v):=fun j=>by
 rw [getD_set]
 split
 ·rename_i hj;rw [←hj.1];exact hv
 ·exact h j
theorem inSt_flop {d:Dev} {ts:List Tile} {vs l:List Int} {k e:Nat} (h:InSt d l) (hk:kindOf d (k:Int)=1) (he:e<2):InSt d (flopSet d ts vs k l e):=by
 unfold flopSet
 split
 ·refine inSt_set h ?_
  have:=lut01 d vs (k:Int) (leAt ts (k:Int) (e:Int))
  unfold mostOf
  rw [show ((2 * k+e) / 2:Nat)=k by omega,if_pos hk]
  exact this
 ·exact h
theorem inSt_next {d:Dev} {ts:List Tile} {st vs:List Int} (hs:InSt d st) (h3:In3 vs) (k:Nat):InSt d (nextTo d ts st vs k):=by
 induction k with
 | zero=>exact hs
 | succ k ih =>
  rw [nextTo,nx1]
  split
  ·rename_i h1
   exact inSt_flop (e:=1) (inSt_flop (e:=0) ih h1 (by decide)) h1 (by decide)
  ·split
   ·rename_i h1 h2
    refine inSt_set ih ?_
    have hm:mostOf d (2 * k)=31:=by unfold mostOf;rw [show (2 * k / 2:Nat)=k by omega,if_neg (by omega),if_pos ⟨h2,by omega⟩]
    have h:=hs (2 * k)
    rw [hm] at h ⊢
    have hl:=inTo_lt (d:=d) h3 (k:Int) 4
    have:=ramNext_le (st[2 * k]?.getD 0).toNat (inTo d vs (k:Int) 4) (by omega) (by omega)
    omega
   ·exact ih
theorem stOk_next {d:Dev} {ts:List Tile} {st ps:List Int} (hd:devOk d=true) (hs:stOk d st=true) (hp:padsOk d ps=true):stOk d (nextF d ts st ps)=true:=by
 refine stOk_mk hd ?_ ?_
 ·rw [nextF,nextTo_length,stOk_len hs]
 ·exact inSt_next (stOk_any hs) (valsF_in3 (stPads_ok hs hp)) _
theorem stOk_start {d:Dev} {fs:List (List Int)} (hf:framesOk d fs=true):stOk d (startF d fs)=true:=by
 have hd:=(framesOk_iff hf).1
 have hr:readF d fs=tilesOf d fs:=by rw [readF,if_pos hf]
 have hl:(startF d fs).length=2 * tiles d:=by unfold startF;rw [startTo_length,hr,tilesOf_length,(frames_n hf).1]
 have hc:=cfg_of_frames hf
 refine stOk_good hd hl fun i hi=>inR_iff.2 ?_
 have hk:i / 2<(tilesOf d fs).length:=by rw [tilesOf_length,(frames_n hf).1];omega
 have ht:tileIn d ((i / 2:Nat):Int)=true:=tileIn_iff.2 ⟨hd,by omega,by rw [(tiles_eq hd).1];omega⟩
 have l0:=(le_fit (e:=0) hc ht (by omega)).1.init
 have l1:=(le_fit (e:=1) hc ht (by omega)).1.init
 have lr:=(le_fit (e:=0) hc ht (by omega)).2.2.2.ram
 have hg:=startTo_get (d:=d) (ts:=tilesOf d fs) (m:=(tilesOf d fs).length) hk (e:=i % 2) (by omega)
 rw [show 2 * (i / 2)+i % 2=i by omega] at hg
 unfold startF
 rw [hr,hg]
 unfold startOf mostOf
 have hm:i % 2=0∨i % 2=1:=by omega
 by_cases h1:kindOf d ((i / 2:Nat):Int)=1
 ·rw [if_pos h1,if_pos h1]
  rcases hm with h|h <;> rw [h]
  ·exact l0
  ·exact l1
 ·rw [if_neg h1,if_neg h1]
  by_cases h2:kindOf d ((i / 2:Nat):Int)=2
  ·rw [if_pos h2]
   rcases hm with h|h <;> rw [h]
   ·rw [if_pos ⟨h2,rfl⟩];exact lr
   ·rw [if_neg (by omega)];exact ⟨Int.le_refl _,Int.le_refl _⟩
  ·rw [if_neg h2,if_neg (by omega)]
   rcases hm with h|h <;> rw [h] <;> exact ⟨Int.le_refl _,Int.le_refl _⟩
/-- The state ahead of cycle k. -/
def stK (d:Dev) (fs:List (List Int)) (pads:List (List Int)):Nat→List Int
 | 0=>startF d fs
 | k+1=>nextF d (tilesOf d fs) (stK d fs pads k) (pads[k]?.getD [])
def runO (d:Dev) (fs:List (List Int)) (pads:List (List Int)):Nat→List (List Int)
 | 0=>[]
 | k+1=>runO d fs pads k++[outF d (tilesOf d fs) (stK d fs pads k) (pads[k]?.getD [])]
theorem stK_ok {d:Dev} {fs pads:List (List Int)} (hf:framesOk d fs=true) {k:Nat} (h:∀j,j<k→padsOk d (pads[j]?.getD [])=true):stOk d (stK d fs pads k)=true:=by
 induction k with
 | zero=>exact stOk_start hf
 | succ k ih=>exact stOk_next (framesOk_iff hf).1 (ih fun j hj=>h j (by omega)) (h k (by omega))
theorem runO_length (d:Dev) (fs pads:List (List Int)) (k:Nat):(runO d fs pads k).length=k:=by
 induction k with
 | zero=>rfl
 | succ k ih=>rw [runO,List.length_append,ih];rfl
theorem size2_snoc (xss:List (List Int)) (xs:List Int):size2 (xss++[xs])=size2 xss+1+xs.length:=by
 have hs:sizeTo (xss++[xs]) xss.length=sizeTo xss xss.length:=by
  have:∀k,k≤xss.length→sizeTo (xss++[xs]) k=sizeTo xss k:=by
   intro k hk
   induction k with
   | zero=>rfl
   | succ k ih=>rw [sizeTo,sizeTo,ih (by omega),List.getElem?_append_left (by omega)]
  exact this _ (Nat.le_refl _)
 unfold size2
 rw [List.length_append,List.length_singleton,sizeTo,hs,List.getElem?_append_right (Nat.le_refl _),Nat.sub_self]
 simp
 omega
theorem runO_size {d:Dev} {fs pads:List (List Int)} (hf:framesOk d fs=true) (k:Nat):size2 (runO d fs pads k)≤37 * k:=by
 induction k with
 | zero=>exact Nat.le_refl _
 | succ k ih =>
  rw [runO,size2_snoc,outF,outTo_length,tilesOf_length]
  have:=(frames_n hf).2
  omega
end Go.Proofs.YtignkfhdkcgkgaaGreat
