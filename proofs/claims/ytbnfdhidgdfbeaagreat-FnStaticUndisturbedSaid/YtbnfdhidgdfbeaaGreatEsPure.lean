/- Undetermined: how many nodes have no value: the program. Undetermined: how many nodes have no value: the reference. EmuValues: the values of all nodes: which arguments are valid; the pads' check of both. SeqNext of a memory, both: one answer. A step of the emulator: the next state and the outputs as lists. EmuStep: the next state and the outputs, or nothing. -/
import Derived.Deep.CutBlock
import Derived.Deep.CutRange
import Derived.Deep.DeepCutAuto
import Derived.Test.YtbnfdhidgdfbeaaGreatHar
import Derived.Test.YtbnfdhidgdfbeaaGreatStartS
import Derived.Test.YtbnfdhidgdfbeaaGreatValS
import Derived.Test.YtbnfdhidgdfbeaaGreatValS2
namespace Go.Proofs.YtbnfdhidgdfbeaaGreat
set_option maxRecDepth 100000
open Go.RowKit

theorem ints_made {w:World} {g n:Nat} (h:w.heap[g]?=some (.cells (arr (List.replicate n 0)) 3 (0,0))) (hn:n≤1000):Ints w (some ⟨g,0,none⟩) n (List.replicate n 0) :=
 (Own.made (base:=0) h (Nat.zero_le _) (Nat.le_trans hn (by decide)) (by simp [arr]) (by simp)).ints

end Go.Proofs.YtbnfdhidgdfbeaaGreat

namespace Go.Proofs.YtbnfdhidgdfbeaaGreat
set_option maxRecDepth 100000
open Go.RowKit

theorem startTo_get {d:Dev} {ts:List Tile} {m k:Nat} (h:k<m) {e:Nat} (he:e<2):(startTo d ts m)[2 * k+e]?.getD 0=(startOf d k (ts[k]?.getD Tile.zero))[e]?.getD 0:=by
 induction m with
 | zero=>omega
 | succ m ih =>
  rw [startTo]
  rcases Nat.lt_or_ge k m with hk|hk
  ·rw [List.getElem?_append_left (by rw [startTo_length];omega)]
   exact ih hk
  ·have:k=m:=by omega
   subst this
   rw [List.getElem?_append_right (by rw [startTo_length];omega),startTo_length,show 2 * k+e - 2 * k=e by omega]
theorem own_low {a b w:World} {A:Option Addr} {n c:Nat} {xs:List Int} (h:Below a.heap.size a b) (o:Own b.heap.size w A n c xs):Own a.heap.size w A n c xs:=o.more h.size

end Go.Proofs.YtbnfdhidgdfbeaaGreat

namespace Go.Proofs.YtbnfdhidgdfbeaaGreat
set_option maxRecDepth 100000
open Go.RowKit

def padsOk (d:Dev) (ps:List Int):Bool:=wordsOk ps (d.W * d.H) 1
def allOk (d:Dev) (fs:List (List Int)) (st ps:List Int):Bool:=framesOk d fs && (stOk d st && padsOk d ps)
theorem allIn_any {ws:List Int} {most:Int} (h:allIn ws most=true) (hm:0≤most) (k:Nat):0≤ws[k]?.getD 0∧ws[k]?.getD 0≤most:=by
 rcases Nat.lt_or_ge k ws.length with hk|hk
 ·exact allIn_get h hk
 ·rw [List.getElem?_eq_none hk];exact ⟨Int.le_refl _,hm⟩
theorem padsOk_len {d:Dev} {ps:List Int} (h:padsOk d ps=true):(ps.length:Int)=d.W * d.H∧allIn ps 1=true:=by
 unfold padsOk wordsOk at h
 rw [Bool.and_eq_true,decide_eq_true_eq] at h
 exact h
theorem stOk_len {d:Dev} {st:List Int} (h:stOk d st=true):st.length=2 * tiles d:=by
 simp only [stOk,Bool.and_eq_true,decide_eq_true_eq] at h
 exact h.2.1
theorem mostOf_pos (d:Dev) (i:Nat):0≤mostOf d i:=by unfold mostOf;split <;> (try split) <;> omega
theorem stOk_any {d:Dev} {st:List Int} (h:stOk d st=true) (i:Nat):0≤st[i]?.getD 0∧st[i]?.getD 0≤mostOf d i:=by
 rcases Nat.lt_or_ge i st.length with hk|hk
 ·simp only [stOk,Bool.and_eq_true,List.all_eq_true,List.mem_range] at h
  exact inR_iff.1 (h.2.2 i hk)
 ·rw [List.getElem?_eq_none hk];exact ⟨Int.le_refl _,mostOf_pos d i⟩
theorem stPads_ok {d:Dev} {ts:List Tile} {st ps:List Int} (hs:stOk d st=true) (hp:padsOk d ps=true):StPads d ts st ps:=by
 refine ⟨fun t _ _=>allIn_any (padsOk_len hp).2 (by omega) _,fun t e ht hk h0 h1=>?_,fun t ht hk=>?_⟩
 ·have ht0:=(tileIn_iff.1 ht).2.1
  have h:=stOk_any hs (2 * t+e).toNat
  unfold nv
  have hx:(((2 * t+e).toNat / 2:Nat):Int)=t:=by omega
  rw [mostOf,hx,if_pos hk] at h
  exact h
 ·have ht0:=(tileIn_iff.1 ht).2.1
  have h:=stOk_any hs (2 * t).toNat
  unfold nv
  have hx:(((2 * t).toNat / 2:Nat):Int)=t:=by omega
  rw [mostOf,hx,if_neg (by omega),if_pos ⟨hk,by omega⟩] at h
  exact h
theorem rdC_dr {w:World} {c:Cel} {v:Value} (h:RdC w w.heap.size c v):RdC w.drew w.drew.heap.size c v:=RdC.keep (w:=w) (w':=w.drew) (B:=w.heap.size) (B':=w.heap.size) (Nat.le_refl _) (fun _ _=>rfl) h

set_option maxHeartbeats 1000000 in
theorem padsOk_any (d:Dev) (A:Option Addr) (n c:Nat) (ps:List Int) (w:World) (h:Ints w A n ps) (hn:n≤1099511627776) (hd:devOk d=true) :
  Calls Tryz.prog 52 #[.agg #[.int .i64 d.W,.int .i64 d.H,.int .i64 d.T,.int .i64 d.R],.slice A n c] w fun e w'=>e = .returned (.bool (padsOk d ps))∧Below w.heap.size w w':=by
 have hB0:Below w.heap.size w (w.alloc (.cells #[.int .i64 d.W,.int .i64 d.H,.int .i64 d.T,.int .i64 d.R] 25)):=below_new (Below.refl _ _) _
 have HI:=Lib.hid h
 have HE:Hid (padsOk d ps=wordsOk ps (d.W * d.H) 1):=rfl
 have e1:=(tiles_eq hd).1
 have hWH:=(tiles_eq hd).2
 rw [e1] at HE
 generalize tiles d=M at *
 have a3:IntKind.i64.wrap (M:Int)=(M:Int):=IntWalk.i64_in _ (by omega)
 clear h hd
 go_enter Tryz.func52,Tryz.ntmps52
 go_wp2_with fail
 refine (wordsOk_any A n c ps _ _ _ (HI.out.below hB0) hn).mono ?_
 rintro e w1 ⟨rfl,b1⟩
 go_wp2_with fail
 go_ret
 exact ⟨ret_bool HE.out.symm,below_tr hB0 b1⟩
set_option maxHeartbeats 1000000 in
theorem l37List_any (A:Option Addr) (n c:Nat) (ws:List Int) (count most:Int) (w:World) (h:Ints w A n ws) (hn:n≤1099511627776) (hlen:(n:Int)=count) :
  Calls Tryz.prog 134 #[.slice A n c,.int .i64 count,.int .i64 most] w fun e w'=>e = .returned (.bool (allIn ws most))∧Below w.heap.size w w':=by
 obtain ⟨hx,hA⟩:=h
 have HX:=Lib.hid hx
 have hd:((n:Int)==count)=true:=by simp [hlen]
 have HN:=Lib.hid hlen
 clear hx hlen
 go_enter Tryz.func134,Tryz.ntmps134
 go_wp2_with fail
 go_loop [7] (fun i=>∃k:Nat,k≤n∧i = .int .i64 k∧∀j,j<k→inR (ws[j]?.getD 0) 0 most=true) (fun i=>n - (intOf i).toNat)
 case atStart=>exact ⟨0,Nat.zero_le _,rfl,by intro j hj;omega⟩
 case round =>
  obtain ⟨k,hk,rfl,hall⟩:=hrel
  have HALL:=Lib.hid hall
  clear hall
  by_cases hlt:k<n
  ·obtain ⟨b,o,rfl,hb,hc⟩:=hA (by omega)
   have hck:=hc k hlt
   clear hc
   have HB:Hid (inR (ws[k]?.getD 0) 0 most=false→allIn ws most=false):=fun h=>allIn_bad (by rw [HX.out];exact hlt) h
   have HG:Hid (inR (ws[k]?.getD 0) 0 most=true→∀j,j<k+1→inR (ws[j]?.getD 0) 0 most=true):=fun h=>all_succ HALL.out h
   generalize ws[k]?.getD 0=x at *
   cases hin:inR x 0 most with
   | true =>
    have HG':=Lib.hid (HG.out hin)
    clear HG HB
    go_wp2_with (go_at_call 119;refine (l01In_any _ _ _ _).mono ?_;rintro e w' ⟨rfl,rfl⟩)
    go_round
    case rel=>exact ⟨k+1,by omega,by go_num,HG'.out⟩
    case measure=>simp [intOf];omega
   | false =>
    have HB':=Lib.hid (HB.out hin)
    clear HG HB
    go_wp2_with (go_at_call 119;refine (l01In_any _ _ _ _).mono ?_;rintro e w' ⟨rfl,rfl⟩)
    go_ret
    exact ⟨ret_bool (by rw [HB'.out]),Below.refl _ _⟩
  ·have hkn:k=n:=by omega
   subst hkn
   go_wp2
   go_ret
   exact ⟨ret_bool (by rw [allIn_good (by rw [HX.out];exact HALL.out)]),Below.refl _ _⟩
set_option maxHeartbeats 1000000 in
theorem sl41Pads_any (d:Dev) (A:Option Addr) (n c:Nat) (ps:List Int) (w:World) (h:Ints w A n ps) (hn:n≤1099511627776) (hd:devOk d=true) :
  Calls Tryz.prog 57 #[.agg #[.int .i64 d.W,.int .i64 d.H,.int .i64 d.T,.int .i64 d.R],.slice A n c] w fun e w'=>e = .returned (.bool (padsOk d ps))∧Below w.heap.size w w':=by
 have hB0:Below w.heap.size w (w.alloc (.cells #[.int .i64 d.W,.int .i64 d.H,.int .i64 d.T,.int .i64 d.R] 25)):=below_new (Below.refl _ _) _
 have HI:=Lib.hid h
 have HX:=Lib.hid h.1
 have HE:Hid (padsOk d ps=wordsOk ps (d.W * d.H) 1):=rfl
 have e1:=(tiles_eq hd).1
 have hWH:=(tiles_eq hd).2
 rw [e1] at HE
 generalize tiles d=M at *
 have a3:IntKind.i64.wrap (M:Int)=(M:Int):=IntWalk.i64_in _ (by omega)
 clear h hd
 by_cases hl:(n:Int)=(M:Int)
 ·have hd1:((n:Int)==(M:Int))=true:=by simp [hl]
  have HL:=Lib.hid hl
  have HE2:Hid (padsOk d ps=allIn ps 1):=by show _=_;rw [HE.out,wordsOk,HX.out,decide_eq_true hl];rfl
  clear hl
  go_enter Tryz.func57,Tryz.ntmps57
  go_wp2_with fail
  refine (l37List_any A n c ps _ _ _ (HI.out.below hB0) hn HL.out).mono ?_
  rintro e w1 ⟨rfl,b1⟩
  go_wp2_with fail
  go_ret
  exact ⟨ret_bool HE2.out.symm,below_tr hB0 b1⟩
 ·have hd1:((n:Int)==(M:Int))=false:=by simp [hl]
  have HE2:Hid (padsOk d ps=false):=by show _=_;rw [HE.out,wordsOk,HX.out,decide_eq_false hl];rfl
  clear hl
  go_enter Tryz.func57,Tryz.ntmps57
  go_wp2_with fail
  go_ret
  exact ⟨ret_bool HE2.out.symm,hB0⟩
end Go.Proofs.YtbnfdhidgdfbeaaGreat

namespace Go.Proofs.YtbnfdhidgdfbeaaGreat
set_option maxRecDepth 100000
open Go.RowKit

/-- The next state of a memory of four bits and an output bit. -/
def ramOut (v a:Nat):Nat:=v / 2 * 2+v / 2 ^ a % 2
def ramNext (v i:Nat):Nat:=if i / 8 % 2=1 then ramOut v (i % 4+1) - ramOut v (i % 4+1) / 2 ^ (i % 4+1) % 2 * 2 ^ (i % 4+1)+i / 4 % 2 * 2 ^ (i % 4+1) else ramOut v (i % 4+1)
theorem ramNext_le (v i:Nat) (hv:v≤31) (hi:i≤15):ramNext v i≤31:=by
 have h:∀v:Fin 32,∀i:Fin 16,ramNext v.val i.val≤31:=by decide +kernel
 exact h ⟨v,by omega⟩ ⟨i,by omega⟩
set_option maxHeartbeats 1000000 in
theorem seqMost_ram (w:World):Calls Tryz.prog 170 #[.int .i64 1] w fun e w'=>e = .returned (.int .i64 31)∧w'=w:=by
 go_enter Tryz.func170,Tryz.ntmps170
 go_wp2_with fail
 go_ret
 exact ⟨rfl,rfl⟩
set_option maxHeartbeats 1000000 in
theorem seqNext_ram (v i:Nat) (hv:v≤31) (hi:i≤15) (w:World) :
  Calls Tryz.prog 130 #[.int .i64 1,.int .i64 (v:Int),.int .i64 (i:Int)] w fun e w'=>e = .returned (.int .i64 (ramNext v i:Nat))∧w'=w:=by
 have hin:inR (v:Int) 0 31=true:=inR_iff.2 ⟨by omega,by omega⟩
 go_enter Tryz.func130,Tryz.ntmps130
 go_wp2_with (first|(go_at_call 170;refine (seqMost_ram _).mono ?_;rintro e w' ⟨rfl,rfl⟩)|(go_at_call 68;refine (inRange_any _ _ _ _).mono ?_;rintro e w' ⟨rfl,rfl⟩;rw [hin]))
 all_goals
  rename_i hc
  clear hin
  go_ret
  refine ⟨ret_int ?_,rfl⟩
  obtain ⟨v,rfl⟩:∃x:Fin 32,v=x.val:=⟨⟨v,by omega⟩,rfl⟩
  obtain ⟨i,rfl⟩:∃x:Fin 16,i=x.val:=⟨⟨i,by omega⟩,rfl⟩
  clear hv hi
  revert i v
  decide +kernel
theorem and3_nat {i:Nat} (hi:i≤15):bits .and .i64 (i:Int) 3=((i % 4:Nat):Int):=by
 have h:∀i:Fin 16,bits .and .i64 (i.val:Int) 3=((i.val % 4:Nat):Int):=by decide +kernel
 exact h ⟨i,by omega⟩
set_option maxHeartbeats 1000000 in
theorem sseqNext_ram (v i:Nat) (hv:v≤31) (hi:i≤15) (w:World) :
  Calls Tryz.prog 137 #[.int .i64 1,.int .i64 (v:Int),.int .i64 (i:Int)] w fun e w'=>e = .returned (.int .i64 (ramNext v i:Nat))∧Below w.heap.size w w':=by
 have hin:inR (v:Int) 0 31=true:=inR_iff.2 ⟨by omega,by omega⟩
 have hA:=and3_nat hi
 have ha:i % 4≤3:=by omega
 go_enter Tryz.func137,Tryz.ntmps137
 go_wp2_with (go_at_call 119;refine (l01In_any _ _ _ _).mono ?_;rintro e w' ⟨rfl,rfl⟩;(try rw [hin]))
 ·go_quiet (fail)
  clear hin hA ha
  go_wp2_with fail
  rename_i hc
  go_ret
  refine ⟨ret_int ?_,below_drewN (Below.refl _ _) _⟩
  obtain ⟨v,rfl⟩:∃x:Fin 32,v=x.val:=⟨⟨v,by omega⟩,rfl⟩
  obtain ⟨i,rfl⟩:∃x:Fin 16,i=x.val:=⟨⟨i,by omega⟩,rfl⟩
  clear hv hi
  revert i v
  decide +kernel
 ·rename_i hc
  clear hin hA ha
  go_ret
  refine ⟨ret_int ?_,Below.refl _ _⟩
  obtain ⟨v,rfl⟩:∃x:Fin 32,v=x.val:=⟨⟨v,by omega⟩,rfl⟩
  obtain ⟨i,rfl⟩:∃x:Fin 16,i=x.val:=⟨⟨i,by omega⟩,rfl⟩
  clear hv hi
  revert i v
  decide +kernel
end Go.Proofs.YtbnfdhidgdfbeaaGreat

namespace Go.Proofs.YtbnfdhidgdfbeaaGreat
set_option maxRecDepth 100000
open Go.RowKit

def mx (x:Int):Int:=if 0<x then x else 0
def inTo (d:Dev) (vs:List Int) (t:Int):Nat→Nat
 | 0=>0
 | k+1=>inTo d vs t k+(mx (nv vs (t * perT d+(k:Int)))).toNat * 2 ^ k
theorem mx_in {vs:List Int} (h:In3 vs) (i:Int):0≤mx (nv vs i)∧mx (nv vs i)≤1:=by
 have:=in3_nv h i
 unfold mx;split <;> omega
theorem inTo_lt {d:Dev} {vs:List Int} (h:In3 vs) (t:Int) (k:Nat):inTo d vs t k<2 ^ k:=by
 induction k with
 | zero=>simp [inTo]
 | succ k ih =>
  have hm:=mx_in h (t * perT d+(k:Int))
  rw [inTo,Nat.pow_succ]
  have h2:(mx (nv vs (t * perT d+(k:Int)))).toNat * 2 ^ k≤1 * 2 ^ k:=Nat.mul_le_mul_right _ (by omega)
  omega
def flopSet (d:Dev) (ts:List Tile) (vs:List Int) (k:Nat) (l:List Int) (e:Nat):List Int :=
 if (leAt ts (k:Int) (e:Int)).flop=1 then l.set (2 * k+e) (mx (lutF d vs (k:Int) (leAt ts (k:Int) (e:Int)))) else l
def flopTo (d:Dev) (ts:List Tile) (vs:List Int) (k:Nat) (l:List Int):Nat→List Int
 | 0=>l
 | e+1=>flopSet d ts vs k (flopTo d ts vs k l e) e
def nx1 (d:Dev) (ts:List Tile) (st vs:List Int) (k:Nat) (l:List Int):List Int :=
 if kindOf d (k:Int)=1 then flopTo d ts vs k l 2
 else if kindOf d (k:Int)=2 then l.set (2 * k) ((ramNext (st[2 * k]?.getD 0).toNat (inTo d vs (k:Int) 4):Nat):Int) else l
def nextTo (d:Dev) (ts:List Tile) (st vs:List Int):Nat→List Int
 | 0=>st
 | k+1=>nx1 d ts st vs k (nextTo d ts st vs k)
def ou1 (d:Dev) (ts:List Tile) (vs:List Int) (k:Nat) (l:List Int):List Int :=
 if kindOf d (k:Int)=0∧(ts[k]?.getD Tile.zero).pad=2 then l.set k (mx (nv vs ((k:Int) * perT d))) else l
def outTo (d:Dev) (ts:List Tile) (vs:List Int) (m:Nat):Nat→List Int
 | 0=>List.replicate m 0
 | k+1=>ou1 d ts vs k (outTo d ts vs m k)
theorem flopSet_length (d:Dev) (ts:List Tile) (vs:List Int) (k:Nat) (l:List Int) (e:Nat):(flopSet d ts vs k l e).length=l.length:=by unfold flopSet;split <;> simp
theorem flopTo_length (d:Dev) (ts:List Tile) (vs:List Int) (k:Nat) (l:List Int) (e:Nat):(flopTo d ts vs k l e).length=l.length:=by
 induction e with
 | zero=>rfl
 | succ e ih=>rw [flopTo,flopSet_length,ih]
theorem nextTo_length (d:Dev) (ts:List Tile) (st vs:List Int) (k:Nat):(nextTo d ts st vs k).length=st.length:=by
 induction k with
 | zero=>rfl
 | succ k ih=>rw [nextTo,nx1];split <;> (try split) <;> simp [flopTo_length,ih]
theorem outTo_length (d:Dev) (ts:List Tile) (vs:List Int) (m k:Nat):(outTo d ts vs m k).length=m:=by
 induction k with
 | zero=>simp [outTo]
 | succ k ih=>rw [outTo,ou1];split <;> simp [ih]
def nextF (d:Dev) (ts:List Tile) (st ps:List Int):List Int:=nextTo d ts st (valsF d ts st ps) ts.length
def outF (d:Dev) (ts:List Tile) (st ps:List Int):List Int:=outTo d ts (valsF d ts st ps) ts.length ts.length
theorem valsF_in3 {d:Dev} {ts:List Tile} {st ps:List Int} (h:StPads d ts st ps):In3 (valsF d ts st ps):=itV_in h _ _
end Go.Proofs.YtbnfdhidgdfbeaaGreat

namespace Go.Proofs.YtbnfdhidgdfbeaaGreat
set_option maxRecDepth 100000
open Go.RowKit

def esN (d:Dev) (fs:List (List Int)) (st ps:List Int):List Int:=if allOk d fs st ps=true then nextF d (tilesOf d fs) st ps else []
def esO (d:Dev) (fs:List (List Int)) (st ps:List Int):List Int:=if allOk d fs st ps=true then outF d (tilesOf d fs) st ps else []
theorem esN_good {d:Dev} {fs:List (List Int)} {st ps:List Int} (h:allOk d fs st ps=true):esN d fs st ps=nextF d (tilesOf d fs) st ps:=if_pos h
theorem esN_bad {d:Dev} {fs:List (List Int)} {st ps:List Int} (h:allOk d fs st ps=false):esN d fs st ps=[]:=if_neg (by rw [h];decide)
theorem esO_good {d:Dev} {fs:List (List Int)} {st ps:List Int} (h:allOk d fs st ps=true):esO d fs st ps=outF d (tilesOf d fs) st ps:=if_pos h
theorem esO_bad {d:Dev} {fs:List (List Int)} {st ps:List Int} (h:allOk d fs st ps=false):esO d fs st ps=[]:=if_neg (by rw [h];decide)
/-- Two rows of the call's own that lie apart. -/
def Apart (lo hi:Nat) (A1 A2:Option Addr):Prop:=∃mid,lo≤mid∧mid≤hi∧Lies A1 lo mid∧Lies A2 mid hi
theorem Apart.nil {lo hi:Nat} (h:lo≤hi):Apart lo hi none none:=⟨lo,Nat.le_refl _,h,by rintro a ⟨⟩,by rintro a ⟨⟩⟩
theorem Apart.more {lo lo' hi hi':Nat} {A1 A2:Option Addr} (h:Apart lo hi A1 A2) (h1:lo'≤lo) (h2:hi≤hi'):Apart lo' hi' A1 A2:=by
 obtain ⟨mid,a,b,c,e⟩:=h
 exact ⟨mid,by omega,by omega,fun x hx=>⟨by have:=(c x hx).1;omega,(c x hx).2⟩,fun x hx=>⟨(e x hx).1,by have:=(e x hx).2;omega⟩⟩
end Go.Proofs.YtbnfdhidgdfbeaaGreat
